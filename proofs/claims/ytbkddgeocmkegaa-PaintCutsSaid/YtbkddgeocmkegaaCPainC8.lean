/- Lemmas on the way to this seat's statements; they bear no condition of their own. -/
import Derived.Test.YtbkddgeocmkegaaCPainC7
namespace Go.Proofs.Ytbkddgeocmkegaa
open Go.RowKit Go.Shelf
set_option linter.unusedSimpArgs false
set_option linter.unusedVariables false
set_option maxHeartbeats 4000000
attribute [local go_sem ↓] run_start run_byte run_cols

variable {w : World} {u g b cap : Nat} {s : Br}
/-- Those blocks that paint turns. -/
def SG (u g b : Nat) : Nat → Prop := fun k => k = u ∨ k = g ∨ k = b
theorem SG_of_SB {w w' : World} (h : Chg (SB u b) w w') : Chg (SG u g b) w w' := h.mono (fun k _ e => by rcases e with e | e; exact .inl e; exact .inr (.inr e))

/-- An order done: what comes of it but the mark of data. -/
theorem act_call (x : BrL w u g b cap s) (o : Ord) (r : ORef) (ho : ORd w (TB u g b) o r) (F : Nat)
    (hF : (o.kind = 0 ∧ F = 168) ∨ (o.kind = 8 ∧ F = 169) ∨ (o.kind = 17 ∧ F = 170) ∨ ((o.kind = 29 ∨ o.kind = 41) ∧ F = 171) ∨ (o.kind = 40 ∧ F = 172) ∨
      (o.kind = 44 ∧ F = 173) ∨ (o.kind = 19 ∧ F = 174) ∨ (o.kind = 5 ∧ F = 175) ∨ (o.kind = 60 ∧ F = 176) ∨ (o.kind = 18 ∧ F = 177)) :
    Calls Try.prog F #[.pointer (some ⟨u, 0, none⟩), OVal o r] w fun e w' => e = .returned (.int .i64 (s.act o).2) ∧ BrL w' u g b cap (s.act o).1 ∧ Chg (SG u g b) w w' := by
  have fin : ∀ {G : Nat} {n : Int} {t : Br}, s.act o = (t, n) → Calls Try.prog G #[.pointer (some ⟨u, 0, none⟩), OVal o r] w (fun e w' => e = .returned (.int .i64 n) ∧ BrL w' u g b cap t ∧ Chg (SB u b) w w') →
      Calls Try.prog G #[.pointer (some ⟨u, 0, none⟩), OVal o r] w fun e w' => e = .returned (.int .i64 (s.act o).2) ∧ BrL w' u g b cap (s.act o).1 ∧ Chg (SG u g b) w w' := by
    intro G n t e h
    rw [e]
    exact h.mono (fun _ _ ⟨h1, h2, h3⟩ => ⟨h1, h2, SG_of_SB h3⟩)
  rcases hF with ⟨h, rfl⟩ | ⟨h, rfl⟩ | ⟨h, rfl⟩ | ⟨h, rfl⟩ | ⟨h, rfl⟩ | ⟨h, rfl⟩ | ⟨h, rfl⟩ | ⟨h, rfl⟩ | ⟨h, rfl⟩ | ⟨h, rfl⟩
  · exact fin (by unfold Br.act; rw [if_pos h]) (data_any x o r ho)
  · exact fin (by unfold Br.act; rw [if_neg (by omega), if_pos h]) (special_any x o r ho.ok)
  · have e : s.act o = if s.there o.addr then ({ s with pos := o.addr }, 0) else (s, 32) := by unfold Br.act; rw [if_neg (by omega), if_neg (by omega), if_pos h]
    cases ht : s.there o.addr
    · exact fin (by rw [e, ht]; rfl) ((jump_no x o r ht).mono (fun _ _ ⟨h1, h2, h3⟩ => ⟨h1, h2, SB_chg h3 (fun k e => .inl e)⟩))
    · exact fin (by rw [e, ht]; rfl) ((jump_yes x o r ht).mono (fun _ _ ⟨h1, h2, h3⟩ => ⟨h1, h2, SB_chg h3 (fun k e => .inl e)⟩))
  · rcases h with h | h
    · exact fin (by unfold Br.act; rw [if_neg (by omega), if_neg (by omega), if_neg (by omega), if_pos h]) (start_sf x o r ho.ok h)
    · exact fin (by unfold Br.act; rw [if_neg (by omega), if_neg (by omega), if_neg (by omega), if_neg (by omega), if_pos h]) (start_any x o r _ ho (by omega))
  · exact fin (by unfold Br.act; rw [if_neg (by omega), if_neg (by omega), if_neg (by omega), if_neg (by omega), if_neg (by omega), if_pos h]) (dress_any x o r _ ho)
  · have e : s.act o = if (s.P.at s.pos).start then (s.lay (dress (s.P.at s.pos) o.pairs), 0) else (s, 31) := by unfold Br.act; rw [if_neg (by omega), if_neg (by omega), if_neg (by omega), if_neg (by omega), if_neg (by omega), if_neg (by omega), if_pos h]
    have hm := modify_any x o r _ ho
    cases ht : (s.P.at s.pos).start
    · rw [ht] at hm; exact fin (by rw [e, ht]; rfl) hm
    · rw [ht] at hm; exact fin (by rw [e, ht]; rfl) hm
  · have e : s.act o = ({ s with P := s.P.point s.pos }, 0) := by unfold Br.act; rw [if_neg (by omega), if_neg (by omega), if_neg (by omega), if_neg (by omega), if_neg (by omega), if_neg (by omega), if_neg (by omega), if_pos h]
    rw [e]
    exact (cursor_any x o r).mono (fun _ _ ⟨h1, h2, h3⟩ => ⟨h1, h2, h3.mono (fun k _ e => .inr (.inl e))⟩)
  · exact fin (by unfold Br.act; rw [if_neg (by omega), if_neg (by omega), if_neg (by omega), if_neg (by omega), if_neg (by omega), if_neg (by omega), if_neg (by omega), if_neg (by omega), if_pos h]) (tab_any x o r)
  · have e : s.act o = if s.there o.addr then ({ s with P := s.P.fil (btw s.n s.pos o.addr) (s.char o.byte o.ge), pos := o.addr }, 0) else (s, 32) := by unfold Br.act; rw [if_neg (by omega), if_neg (by omega), if_neg (by omega), if_neg (by omega), if_neg (by omega), if_neg (by omega), if_neg (by omega), if_neg (by omega), if_neg (by omega), if_pos h]
    cases ht : s.there o.addr
    · exact fin (by rw [e, ht]; rfl) (repeat_no x o r ht)
    · exact fin (by rw [e, ht]; rfl) (repeat_yes x o r ho.ok ht)
  · have e : s.act o = if s.there o.addr then ({ s with P := s.P.wipeL (btw s.n s.pos o.addr), pos := o.addr }, 0) else (s, 32) := by unfold Br.act; rw [if_neg (by omega), if_neg (by omega), if_neg (by omega), if_neg (by omega), if_neg (by omega), if_neg (by omega), if_neg (by omega), if_neg (by omega), if_neg (by omega), if_neg (by omega), if_pos h]
    cases ht : s.there o.addr
    · exact fin (by rw [e, ht]; rfl) (wipe_no x o r ht)
    · exact fin (by rw [e, ht]; rfl) (wipe_yes x o r ho.ok ht)

theorem ORd.weak' {T : Nat → Prop} {o : Ord} {r : ORef} {w w1 : World} (h : ORd w T o r) (hb : Below w.heap.size w w1) : ORd w1 T o r := h.below hb
theorem do_0 (x : BrL w u g b cap s) (oa ob : Int) (og : Bool) (ops : List (Int × Int)) (od : List Int) (r : ORef) (ho : ORd w (TB u g b) ⟨0, oa, ob, og, ops, od⟩ r) (hdd : decide (0 < od.length) = true) :
    Calls Try.prog 118 #[.pointer (some ⟨u, 0, none⟩), OVal ⟨0, oa, ob, og, ops, od⟩ r] w fun e w' => e = .returned (.int .i64 (s.dO ⟨0, oa, ob, og, ops, od⟩).2) ∧ BrL w' u g b cap (s.dO ⟨0, oa, ob, og, ops, od⟩).1 ∧ Chg (SG u g b) w w' := by
  have hul := x.hl
  have hdo : s.dO ⟨0, oa, ob, og, ops, od⟩ = ({ (s.act ⟨0, oa, ob, og, ops, od⟩).1 with laid := true }, (s.act ⟨0, oa, ob, og, ops, od⟩).2) := by
    unfold Br.dO
    rw [if_pos (by rfl)]
    have : isData ⟨0, oa, ob, og, ops, od⟩ = true := by show ((0:Int)==8||((0:Int)==0&&decide (0 < od.length)))=true; rw [hdd]; rfl
    rw [this]
  rw [hdo]
  clear hdo
  have hac := fun (w1 : World) (x1 : BrL w1 u g b cap s) (h1 : Below w.heap.size w w1) => act_call x1 ⟨0, oa, ob, og, ops, od⟩ r (ho.weak' h1) 168 (by simp)
  obtain ⟨⟨t, n⟩, ht⟩ : ∃ y, s.act ⟨0, oa, ob, og, ops, od⟩ = y := ⟨_, rfl⟩
  rw [ht] at hac ⊢
  clear ht
  have HAC := Lib.hid hac
  clear hac ho
  unfold OVal
  go_enter Try.func118, Try.ntmps118
  go_wp2_with fail
  refine (HAC.out _ (x.below (by with_reducible (repeat (first | exact Below.refl _ _ | assumption | (refine Below.setCell ?_ (by first | omega | (simp; done) | (simp; omega)) _) | (refine Below.alloc ?_ (by first | omega | (simp; done) | (simp; omega)) _) | (refine below_drewN ?_ _) | (refine Below.drew ?_) | (refine Below.trans ?_ (Below.mono hb (by first | omega | (simp; done) | (simp; omega)))) | (refine Below.trans ?_ (Below.mono hb1 (by first | omega | (simp; done) | (simp; omega)))) | (refine Below.trans ?_ (Below.mono hb2 (by first | omega | (simp; done) | (simp; omega)))) | (refine Below.trans ?_ (Below.mono hb3 (by first | omega | (simp; done) | (simp; omega)))) | (refine Below.trans ?_ (Below.mono hb4 (by first | omega | (simp; done) | (simp; omega)))) | (refine Below.trans ?_ (Below.mono hb5 (by first | omega | (simp; done) | (simp; omega)))) | (refine Below.trans ?_ (Below.mono hb6 (by first | omega | (simp; done) | (simp; omega)))) | (refine Below.trans ?_ (Below.mono hb7 (by first | omega | (simp; done) | (simp; omega)))) | (refine Below.trans ?_ (Below.mono hb8 (by first | omega | (simp; done) | (simp; omega)))) | (refine Below.trans ?_ (Below.mono hb9 (by first | omega | (simp; done) | (simp; omega)))) | (refine Below.trans ?_ (Below.mono hb10 (by first | omega | (simp; done) | (simp; omega)))) | (refine Below.trans ?_ (Below.mono hb11 (by first | omega | (simp; done) | (simp; omega)))) | (refine Below.trans ?_ (Below.mono hb12 (by first | omega | (simp; done) | (simp; omega)))))))) (by with_reducible (repeat (first | exact Below.refl _ _ | assumption | (refine Below.setCell ?_ (by first | omega | (simp; done) | (simp; omega)) _) | (refine Below.alloc ?_ (by first | omega | (simp; done) | (simp; omega)) _) | (refine below_drewN ?_ _) | (refine Below.drew ?_) | (refine Below.trans ?_ (Below.mono hb (by first | omega | (simp; done) | (simp; omega)))) | (refine Below.trans ?_ (Below.mono hb1 (by first | omega | (simp; done) | (simp; omega)))) | (refine Below.trans ?_ (Below.mono hb2 (by first | omega | (simp; done) | (simp; omega)))) | (refine Below.trans ?_ (Below.mono hb3 (by first | omega | (simp; done) | (simp; omega)))) | (refine Below.trans ?_ (Below.mono hb4 (by first | omega | (simp; done) | (simp; omega)))) | (refine Below.trans ?_ (Below.mono hb5 (by first | omega | (simp; done) | (simp; omega)))) | (refine Below.trans ?_ (Below.mono hb6 (by first | omega | (simp; done) | (simp; omega)))) | (refine Below.trans ?_ (Below.mono hb7 (by first | omega | (simp; done) | (simp; omega)))) | (refine Below.trans ?_ (Below.mono hb8 (by first | omega | (simp; done) | (simp; omega)))) | (refine Below.trans ?_ (Below.mono hb9 (by first | omega | (simp; done) | (simp; omega)))) | (refine Below.trans ?_ (Below.mono hb10 (by first | omega | (simp; done) | (simp; omega)))) | (refine Below.trans ?_ (Below.mono hb11 (by first | omega | (simp; done) | (simp; omega)))) | (refine Below.trans ?_ (Below.mono hb12 (by first | omega | (simp; done) | (simp; omega)))))))).mono ?_
  rintro e w1 ⟨rfl, hx1, hk1⟩
  have hgl := x.pl.gl
  have hbl := x.pl.bl
  have hns : ¬ SG u g b w.heap.size := by unfold SG; omega
  have y0 : w1.cell? ⟨w.heap.size, 0, none⟩ = some (.int .u8 0) := cell_keepC (by simp [go_sem]) hk1 hns
  have y5 : w1.cell? ⟨w.heap.size, 5, none⟩ = some (.slice r.da od.length r.dc) := cell_keepC (by simp [go_sem]) hk1 hns
  have c7 := hx1.c7
  have fz := hx1.fz
  have hB1 : Chg (SG u g b) w w1 := chg_bel (by with_reducible (repeat (first | exact Below.refl _ _ | assumption | (refine Below.setCell ?_ (by first | omega | (simp; done) | (simp; omega)) _) | (refine Below.alloc ?_ (by first | omega | (simp; done) | (simp; omega)) _) | (refine below_drewN ?_ _) | (refine Below.drew ?_) | (refine Below.trans ?_ (Below.mono hb (by first | omega | (simp; done) | (simp; omega)))) | (refine Below.trans ?_ (Below.mono hb1 (by first | omega | (simp; done) | (simp; omega)))) | (refine Below.trans ?_ (Below.mono hb2 (by first | omega | (simp; done) | (simp; omega)))) | (refine Below.trans ?_ (Below.mono hb3 (by first | omega | (simp; done) | (simp; omega)))) | (refine Below.trans ?_ (Below.mono hb4 (by first | omega | (simp; done) | (simp; omega)))) | (refine Below.trans ?_ (Below.mono hb5 (by first | omega | (simp; done) | (simp; omega)))) | (refine Below.trans ?_ (Below.mono hb6 (by first | omega | (simp; done) | (simp; omega)))) | (refine Below.trans ?_ (Below.mono hb7 (by first | omega | (simp; done) | (simp; omega)))) | (refine Below.trans ?_ (Below.mono hb8 (by first | omega | (simp; done) | (simp; omega)))) | (refine Below.trans ?_ (Below.mono hb9 (by first | omega | (simp; done) | (simp; omega)))) | (refine Below.trans ?_ (Below.mono hb10 (by first | omega | (simp; done) | (simp; omega)))) | (refine Below.trans ?_ (Below.mono hb11 (by first | omega | (simp; done) | (simp; omega)))) | (refine Below.trans ?_ (Below.mono hb12 (by first | omega | (simp; done) | (simp; omega))))))) hk1
  clear hk1 hns
  go_wp2
  go_ret
  exact ⟨rfl, hx1.lays true, Chg.setCell (S := SG u g b) hB1 (.inl (.inl rfl)) _⟩
theorem do_0e (x : BrL w u g b cap s) (oa ob : Int) (og : Bool) (ops : List (Int × Int)) (od : List Int) (r : ORef) (ho : ORd w (TB u g b) ⟨0, oa, ob, og, ops, od⟩ r) (hdd : decide (0 < od.length) = false) :
    Calls Try.prog 118 #[.pointer (some ⟨u, 0, none⟩), OVal ⟨0, oa, ob, og, ops, od⟩ r] w fun e w' => e = .returned (.int .i64 (s.dO ⟨0, oa, ob, og, ops, od⟩).2) ∧ BrL w' u g b cap (s.dO ⟨0, oa, ob, og, ops, od⟩).1 ∧ Chg (SG u g b) w w' := by
  have hul := x.hl
  have hdo : s.dO ⟨0, oa, ob, og, ops, od⟩ = ({ (s.act ⟨0, oa, ob, og, ops, od⟩).1 with laid := false }, (s.act ⟨0, oa, ob, og, ops, od⟩).2) := by
    unfold Br.dO
    rw [if_pos (by rfl)]
    have : isData ⟨0, oa, ob, og, ops, od⟩ = false := by show ((0:Int)==8||((0:Int)==0&&decide (0 < od.length)))=false; rw [hdd]; rfl
    rw [this]
  rw [hdo]
  clear hdo
  have hac := fun (w1 : World) (x1 : BrL w1 u g b cap s) (h1 : Below w.heap.size w w1) => act_call x1 ⟨0, oa, ob, og, ops, od⟩ r (ho.weak' h1) 168 (by simp)
  obtain ⟨⟨t, n⟩, ht⟩ : ∃ y, s.act ⟨0, oa, ob, og, ops, od⟩ = y := ⟨_, rfl⟩
  rw [ht] at hac ⊢
  clear ht
  have HAC := Lib.hid hac
  clear hac ho
  unfold OVal
  go_enter Try.func118, Try.ntmps118
  go_wp2_with fail
  refine (HAC.out _ (x.below (by with_reducible (repeat (first | exact Below.refl _ _ | assumption | (refine Below.setCell ?_ (by first | omega | (simp; done) | (simp; omega)) _) | (refine Below.alloc ?_ (by first | omega | (simp; done) | (simp; omega)) _) | (refine below_drewN ?_ _) | (refine Below.drew ?_) | (refine Below.trans ?_ (Below.mono hb (by first | omega | (simp; done) | (simp; omega)))) | (refine Below.trans ?_ (Below.mono hb1 (by first | omega | (simp; done) | (simp; omega)))) | (refine Below.trans ?_ (Below.mono hb2 (by first | omega | (simp; done) | (simp; omega)))) | (refine Below.trans ?_ (Below.mono hb3 (by first | omega | (simp; done) | (simp; omega)))) | (refine Below.trans ?_ (Below.mono hb4 (by first | omega | (simp; done) | (simp; omega)))) | (refine Below.trans ?_ (Below.mono hb5 (by first | omega | (simp; done) | (simp; omega)))) | (refine Below.trans ?_ (Below.mono hb6 (by first | omega | (simp; done) | (simp; omega)))) | (refine Below.trans ?_ (Below.mono hb7 (by first | omega | (simp; done) | (simp; omega)))) | (refine Below.trans ?_ (Below.mono hb8 (by first | omega | (simp; done) | (simp; omega)))) | (refine Below.trans ?_ (Below.mono hb9 (by first | omega | (simp; done) | (simp; omega)))) | (refine Below.trans ?_ (Below.mono hb10 (by first | omega | (simp; done) | (simp; omega)))) | (refine Below.trans ?_ (Below.mono hb11 (by first | omega | (simp; done) | (simp; omega)))) | (refine Below.trans ?_ (Below.mono hb12 (by first | omega | (simp; done) | (simp; omega)))))))) (by with_reducible (repeat (first | exact Below.refl _ _ | assumption | (refine Below.setCell ?_ (by first | omega | (simp; done) | (simp; omega)) _) | (refine Below.alloc ?_ (by first | omega | (simp; done) | (simp; omega)) _) | (refine below_drewN ?_ _) | (refine Below.drew ?_) | (refine Below.trans ?_ (Below.mono hb (by first | omega | (simp; done) | (simp; omega)))) | (refine Below.trans ?_ (Below.mono hb1 (by first | omega | (simp; done) | (simp; omega)))) | (refine Below.trans ?_ (Below.mono hb2 (by first | omega | (simp; done) | (simp; omega)))) | (refine Below.trans ?_ (Below.mono hb3 (by first | omega | (simp; done) | (simp; omega)))) | (refine Below.trans ?_ (Below.mono hb4 (by first | omega | (simp; done) | (simp; omega)))) | (refine Below.trans ?_ (Below.mono hb5 (by first | omega | (simp; done) | (simp; omega)))) | (refine Below.trans ?_ (Below.mono hb6 (by first | omega | (simp; done) | (simp; omega)))) | (refine Below.trans ?_ (Below.mono hb7 (by first | omega | (simp; done) | (simp; omega)))) | (refine Below.trans ?_ (Below.mono hb8 (by first | omega | (simp; done) | (simp; omega)))) | (refine Below.trans ?_ (Below.mono hb9 (by first | omega | (simp; done) | (simp; omega)))) | (refine Below.trans ?_ (Below.mono hb10 (by first | omega | (simp; done) | (simp; omega)))) | (refine Below.trans ?_ (Below.mono hb11 (by first | omega | (simp; done) | (simp; omega)))) | (refine Below.trans ?_ (Below.mono hb12 (by first | omega | (simp; done) | (simp; omega)))))))).mono ?_
  rintro e w1 ⟨rfl, hx1, hk1⟩
  have hgl := x.pl.gl
  have hbl := x.pl.bl
  have hns : ¬ SG u g b w.heap.size := by unfold SG; omega
  have y0 : w1.cell? ⟨w.heap.size, 0, none⟩ = some (.int .u8 0) := cell_keepC (by simp [go_sem]) hk1 hns
  have y5 : w1.cell? ⟨w.heap.size, 5, none⟩ = some (.slice r.da od.length r.dc) := cell_keepC (by simp [go_sem]) hk1 hns
  have c7 := hx1.c7
  have fz := hx1.fz
  have hB1 : Chg (SG u g b) w w1 := chg_bel (by with_reducible (repeat (first | exact Below.refl _ _ | assumption | (refine Below.setCell ?_ (by first | omega | (simp; done) | (simp; omega)) _) | (refine Below.alloc ?_ (by first | omega | (simp; done) | (simp; omega)) _) | (refine below_drewN ?_ _) | (refine Below.drew ?_) | (refine Below.trans ?_ (Below.mono hb (by first | omega | (simp; done) | (simp; omega)))) | (refine Below.trans ?_ (Below.mono hb1 (by first | omega | (simp; done) | (simp; omega)))) | (refine Below.trans ?_ (Below.mono hb2 (by first | omega | (simp; done) | (simp; omega)))) | (refine Below.trans ?_ (Below.mono hb3 (by first | omega | (simp; done) | (simp; omega)))) | (refine Below.trans ?_ (Below.mono hb4 (by first | omega | (simp; done) | (simp; omega)))) | (refine Below.trans ?_ (Below.mono hb5 (by first | omega | (simp; done) | (simp; omega)))) | (refine Below.trans ?_ (Below.mono hb6 (by first | omega | (simp; done) | (simp; omega)))) | (refine Below.trans ?_ (Below.mono hb7 (by first | omega | (simp; done) | (simp; omega)))) | (refine Below.trans ?_ (Below.mono hb8 (by first | omega | (simp; done) | (simp; omega)))) | (refine Below.trans ?_ (Below.mono hb9 (by first | omega | (simp; done) | (simp; omega)))) | (refine Below.trans ?_ (Below.mono hb10 (by first | omega | (simp; done) | (simp; omega)))) | (refine Below.trans ?_ (Below.mono hb11 (by first | omega | (simp; done) | (simp; omega)))) | (refine Below.trans ?_ (Below.mono hb12 (by first | omega | (simp; done) | (simp; omega))))))) hk1
  clear hk1 hns
  go_wp2
  go_ret
  exact ⟨rfl, hx1.lays false, Chg.setCell (S := SG u g b) hB1 (.inl (.inl rfl)) _⟩
theorem do_8 (x : BrL w u g b cap s) (oa ob : Int) (og : Bool) (ops : List (Int × Int)) (od : List Int) (r : ORef) (ho : ORd w (TB u g b) ⟨8, oa, ob, og, ops, od⟩ r)  :
    Calls Try.prog 118 #[.pointer (some ⟨u, 0, none⟩), OVal ⟨8, oa, ob, og, ops, od⟩ r] w fun e w' => e = .returned (.int .i64 (s.dO ⟨8, oa, ob, og, ops, od⟩).2) ∧ BrL w' u g b cap (s.dO ⟨8, oa, ob, og, ops, od⟩).1 ∧ Chg (SG u g b) w w' := by
  have hul := x.hl
  have hdo : s.dO ⟨8, oa, ob, og, ops, od⟩ = ({ (s.act ⟨8, oa, ob, og, ops, od⟩).1 with laid := true }, (s.act ⟨8, oa, ob, og, ops, od⟩).2) := by
    unfold Br.dO
    rw [if_pos (by rfl)]
    have : isData ⟨8, oa, ob, og, ops, od⟩ = true := by rfl
    rw [this]
  rw [hdo]
  clear hdo
  have hac := fun (w1 : World) (x1 : BrL w1 u g b cap s) (h1 : Below w.heap.size w w1) => act_call x1 ⟨8, oa, ob, og, ops, od⟩ r (ho.weak' h1) 169 (by simp)
  obtain ⟨⟨t, n⟩, ht⟩ : ∃ y, s.act ⟨8, oa, ob, og, ops, od⟩ = y := ⟨_, rfl⟩
  rw [ht] at hac ⊢
  clear ht
  have HAC := Lib.hid hac
  clear hac ho
  unfold OVal
  go_enter Try.func118, Try.ntmps118
  go_wp2_with fail
  refine (HAC.out _ (x.below (by with_reducible (repeat (first | exact Below.refl _ _ | assumption | (refine Below.setCell ?_ (by first | omega | (simp; done) | (simp; omega)) _) | (refine Below.alloc ?_ (by first | omega | (simp; done) | (simp; omega)) _) | (refine below_drewN ?_ _) | (refine Below.drew ?_) | (refine Below.trans ?_ (Below.mono hb (by first | omega | (simp; done) | (simp; omega)))) | (refine Below.trans ?_ (Below.mono hb1 (by first | omega | (simp; done) | (simp; omega)))) | (refine Below.trans ?_ (Below.mono hb2 (by first | omega | (simp; done) | (simp; omega)))) | (refine Below.trans ?_ (Below.mono hb3 (by first | omega | (simp; done) | (simp; omega)))) | (refine Below.trans ?_ (Below.mono hb4 (by first | omega | (simp; done) | (simp; omega)))) | (refine Below.trans ?_ (Below.mono hb5 (by first | omega | (simp; done) | (simp; omega)))) | (refine Below.trans ?_ (Below.mono hb6 (by first | omega | (simp; done) | (simp; omega)))) | (refine Below.trans ?_ (Below.mono hb7 (by first | omega | (simp; done) | (simp; omega)))) | (refine Below.trans ?_ (Below.mono hb8 (by first | omega | (simp; done) | (simp; omega)))) | (refine Below.trans ?_ (Below.mono hb9 (by first | omega | (simp; done) | (simp; omega)))) | (refine Below.trans ?_ (Below.mono hb10 (by first | omega | (simp; done) | (simp; omega)))) | (refine Below.trans ?_ (Below.mono hb11 (by first | omega | (simp; done) | (simp; omega)))) | (refine Below.trans ?_ (Below.mono hb12 (by first | omega | (simp; done) | (simp; omega)))))))) (by with_reducible (repeat (first | exact Below.refl _ _ | assumption | (refine Below.setCell ?_ (by first | omega | (simp; done) | (simp; omega)) _) | (refine Below.alloc ?_ (by first | omega | (simp; done) | (simp; omega)) _) | (refine below_drewN ?_ _) | (refine Below.drew ?_) | (refine Below.trans ?_ (Below.mono hb (by first | omega | (simp; done) | (simp; omega)))) | (refine Below.trans ?_ (Below.mono hb1 (by first | omega | (simp; done) | (simp; omega)))) | (refine Below.trans ?_ (Below.mono hb2 (by first | omega | (simp; done) | (simp; omega)))) | (refine Below.trans ?_ (Below.mono hb3 (by first | omega | (simp; done) | (simp; omega)))) | (refine Below.trans ?_ (Below.mono hb4 (by first | omega | (simp; done) | (simp; omega)))) | (refine Below.trans ?_ (Below.mono hb5 (by first | omega | (simp; done) | (simp; omega)))) | (refine Below.trans ?_ (Below.mono hb6 (by first | omega | (simp; done) | (simp; omega)))) | (refine Below.trans ?_ (Below.mono hb7 (by first | omega | (simp; done) | (simp; omega)))) | (refine Below.trans ?_ (Below.mono hb8 (by first | omega | (simp; done) | (simp; omega)))) | (refine Below.trans ?_ (Below.mono hb9 (by first | omega | (simp; done) | (simp; omega)))) | (refine Below.trans ?_ (Below.mono hb10 (by first | omega | (simp; done) | (simp; omega)))) | (refine Below.trans ?_ (Below.mono hb11 (by first | omega | (simp; done) | (simp; omega)))) | (refine Below.trans ?_ (Below.mono hb12 (by first | omega | (simp; done) | (simp; omega)))))))).mono ?_
  rintro e w1 ⟨rfl, hx1, hk1⟩
  have hgl := x.pl.gl
  have hbl := x.pl.bl
  have hns : ¬ SG u g b w.heap.size := by unfold SG; omega
  have y0 : w1.cell? ⟨w.heap.size, 0, none⟩ = some (.int .u8 8) := cell_keepC (by simp [go_sem]) hk1 hns
  have y5 : w1.cell? ⟨w.heap.size, 5, none⟩ = some (.slice r.da od.length r.dc) := cell_keepC (by simp [go_sem]) hk1 hns
  have c7 := hx1.c7
  have fz := hx1.fz
  have hB1 : Chg (SG u g b) w w1 := chg_bel (by with_reducible (repeat (first | exact Below.refl _ _ | assumption | (refine Below.setCell ?_ (by first | omega | (simp; done) | (simp; omega)) _) | (refine Below.alloc ?_ (by first | omega | (simp; done) | (simp; omega)) _) | (refine below_drewN ?_ _) | (refine Below.drew ?_) | (refine Below.trans ?_ (Below.mono hb (by first | omega | (simp; done) | (simp; omega)))) | (refine Below.trans ?_ (Below.mono hb1 (by first | omega | (simp; done) | (simp; omega)))) | (refine Below.trans ?_ (Below.mono hb2 (by first | omega | (simp; done) | (simp; omega)))) | (refine Below.trans ?_ (Below.mono hb3 (by first | omega | (simp; done) | (simp; omega)))) | (refine Below.trans ?_ (Below.mono hb4 (by first | omega | (simp; done) | (simp; omega)))) | (refine Below.trans ?_ (Below.mono hb5 (by first | omega | (simp; done) | (simp; omega)))) | (refine Below.trans ?_ (Below.mono hb6 (by first | omega | (simp; done) | (simp; omega)))) | (refine Below.trans ?_ (Below.mono hb7 (by first | omega | (simp; done) | (simp; omega)))) | (refine Below.trans ?_ (Below.mono hb8 (by first | omega | (simp; done) | (simp; omega)))) | (refine Below.trans ?_ (Below.mono hb9 (by first | omega | (simp; done) | (simp; omega)))) | (refine Below.trans ?_ (Below.mono hb10 (by first | omega | (simp; done) | (simp; omega)))) | (refine Below.trans ?_ (Below.mono hb11 (by first | omega | (simp; done) | (simp; omega)))) | (refine Below.trans ?_ (Below.mono hb12 (by first | omega | (simp; done) | (simp; omega))))))) hk1
  clear hk1 hns
  go_wp2
  go_ret
  exact ⟨rfl, hx1.lays true, Chg.setCell (S := SG u g b) hB1 (.inl (.inl rfl)) _⟩
theorem do_17 (x : BrL w u g b cap s) (oa ob : Int) (og : Bool) (ops : List (Int × Int)) (od : List Int) (r : ORef) (ho : ORd w (TB u g b) ⟨17, oa, ob, og, ops, od⟩ r)  :
    Calls Try.prog 118 #[.pointer (some ⟨u, 0, none⟩), OVal ⟨17, oa, ob, og, ops, od⟩ r] w fun e w' => e = .returned (.int .i64 (s.dO ⟨17, oa, ob, og, ops, od⟩).2) ∧ BrL w' u g b cap (s.dO ⟨17, oa, ob, og, ops, od⟩).1 ∧ Chg (SG u g b) w w' := by
  have hul := x.hl
  have hdo : s.dO ⟨17, oa, ob, og, ops, od⟩ = ({ (s.act ⟨17, oa, ob, og, ops, od⟩).1 with laid := false }, (s.act ⟨17, oa, ob, og, ops, od⟩).2) := by
    unfold Br.dO
    rw [if_pos (by rfl)]
    have : isData ⟨17, oa, ob, og, ops, od⟩ = false := by rfl
    rw [this]
  rw [hdo]
  clear hdo
  have hac := fun (w1 : World) (x1 : BrL w1 u g b cap s) (h1 : Below w.heap.size w w1) => act_call x1 ⟨17, oa, ob, og, ops, od⟩ r (ho.weak' h1) 170 (by simp)
  obtain ⟨⟨t, n⟩, ht⟩ : ∃ y, s.act ⟨17, oa, ob, og, ops, od⟩ = y := ⟨_, rfl⟩
  rw [ht] at hac ⊢
  clear ht
  have HAC := Lib.hid hac
  clear hac ho
  unfold OVal
  go_enter Try.func118, Try.ntmps118
  go_wp2_with fail
  refine (HAC.out _ (x.below (by with_reducible (repeat (first | exact Below.refl _ _ | assumption | (refine Below.setCell ?_ (by first | omega | (simp; done) | (simp; omega)) _) | (refine Below.alloc ?_ (by first | omega | (simp; done) | (simp; omega)) _) | (refine below_drewN ?_ _) | (refine Below.drew ?_) | (refine Below.trans ?_ (Below.mono hb (by first | omega | (simp; done) | (simp; omega)))) | (refine Below.trans ?_ (Below.mono hb1 (by first | omega | (simp; done) | (simp; omega)))) | (refine Below.trans ?_ (Below.mono hb2 (by first | omega | (simp; done) | (simp; omega)))) | (refine Below.trans ?_ (Below.mono hb3 (by first | omega | (simp; done) | (simp; omega)))) | (refine Below.trans ?_ (Below.mono hb4 (by first | omega | (simp; done) | (simp; omega)))) | (refine Below.trans ?_ (Below.mono hb5 (by first | omega | (simp; done) | (simp; omega)))) | (refine Below.trans ?_ (Below.mono hb6 (by first | omega | (simp; done) | (simp; omega)))) | (refine Below.trans ?_ (Below.mono hb7 (by first | omega | (simp; done) | (simp; omega)))) | (refine Below.trans ?_ (Below.mono hb8 (by first | omega | (simp; done) | (simp; omega)))) | (refine Below.trans ?_ (Below.mono hb9 (by first | omega | (simp; done) | (simp; omega)))) | (refine Below.trans ?_ (Below.mono hb10 (by first | omega | (simp; done) | (simp; omega)))) | (refine Below.trans ?_ (Below.mono hb11 (by first | omega | (simp; done) | (simp; omega)))) | (refine Below.trans ?_ (Below.mono hb12 (by first | omega | (simp; done) | (simp; omega)))))))) (by with_reducible (repeat (first | exact Below.refl _ _ | assumption | (refine Below.setCell ?_ (by first | omega | (simp; done) | (simp; omega)) _) | (refine Below.alloc ?_ (by first | omega | (simp; done) | (simp; omega)) _) | (refine below_drewN ?_ _) | (refine Below.drew ?_) | (refine Below.trans ?_ (Below.mono hb (by first | omega | (simp; done) | (simp; omega)))) | (refine Below.trans ?_ (Below.mono hb1 (by first | omega | (simp; done) | (simp; omega)))) | (refine Below.trans ?_ (Below.mono hb2 (by first | omega | (simp; done) | (simp; omega)))) | (refine Below.trans ?_ (Below.mono hb3 (by first | omega | (simp; done) | (simp; omega)))) | (refine Below.trans ?_ (Below.mono hb4 (by first | omega | (simp; done) | (simp; omega)))) | (refine Below.trans ?_ (Below.mono hb5 (by first | omega | (simp; done) | (simp; omega)))) | (refine Below.trans ?_ (Below.mono hb6 (by first | omega | (simp; done) | (simp; omega)))) | (refine Below.trans ?_ (Below.mono hb7 (by first | omega | (simp; done) | (simp; omega)))) | (refine Below.trans ?_ (Below.mono hb8 (by first | omega | (simp; done) | (simp; omega)))) | (refine Below.trans ?_ (Below.mono hb9 (by first | omega | (simp; done) | (simp; omega)))) | (refine Below.trans ?_ (Below.mono hb10 (by first | omega | (simp; done) | (simp; omega)))) | (refine Below.trans ?_ (Below.mono hb11 (by first | omega | (simp; done) | (simp; omega)))) | (refine Below.trans ?_ (Below.mono hb12 (by first | omega | (simp; done) | (simp; omega)))))))).mono ?_
  rintro e w1 ⟨rfl, hx1, hk1⟩
  have hgl := x.pl.gl
  have hbl := x.pl.bl
  have hns : ¬ SG u g b w.heap.size := by unfold SG; omega
  have y0 : w1.cell? ⟨w.heap.size, 0, none⟩ = some (.int .u8 17) := cell_keepC (by simp [go_sem]) hk1 hns
  have y5 : w1.cell? ⟨w.heap.size, 5, none⟩ = some (.slice r.da od.length r.dc) := cell_keepC (by simp [go_sem]) hk1 hns
  have c7 := hx1.c7
  have fz := hx1.fz
  have hB1 : Chg (SG u g b) w w1 := chg_bel (by with_reducible (repeat (first | exact Below.refl _ _ | assumption | (refine Below.setCell ?_ (by first | omega | (simp; done) | (simp; omega)) _) | (refine Below.alloc ?_ (by first | omega | (simp; done) | (simp; omega)) _) | (refine below_drewN ?_ _) | (refine Below.drew ?_) | (refine Below.trans ?_ (Below.mono hb (by first | omega | (simp; done) | (simp; omega)))) | (refine Below.trans ?_ (Below.mono hb1 (by first | omega | (simp; done) | (simp; omega)))) | (refine Below.trans ?_ (Below.mono hb2 (by first | omega | (simp; done) | (simp; omega)))) | (refine Below.trans ?_ (Below.mono hb3 (by first | omega | (simp; done) | (simp; omega)))) | (refine Below.trans ?_ (Below.mono hb4 (by first | omega | (simp; done) | (simp; omega)))) | (refine Below.trans ?_ (Below.mono hb5 (by first | omega | (simp; done) | (simp; omega)))) | (refine Below.trans ?_ (Below.mono hb6 (by first | omega | (simp; done) | (simp; omega)))) | (refine Below.trans ?_ (Below.mono hb7 (by first | omega | (simp; done) | (simp; omega)))) | (refine Below.trans ?_ (Below.mono hb8 (by first | omega | (simp; done) | (simp; omega)))) | (refine Below.trans ?_ (Below.mono hb9 (by first | omega | (simp; done) | (simp; omega)))) | (refine Below.trans ?_ (Below.mono hb10 (by first | omega | (simp; done) | (simp; omega)))) | (refine Below.trans ?_ (Below.mono hb11 (by first | omega | (simp; done) | (simp; omega)))) | (refine Below.trans ?_ (Below.mono hb12 (by first | omega | (simp; done) | (simp; omega))))))) hk1
  clear hk1 hns
  go_wp2
  go_ret
  exact ⟨rfl, hx1.lays false, Chg.setCell (S := SG u g b) hB1 (.inl (.inl rfl)) _⟩
theorem do_29 (x : BrL w u g b cap s) (oa ob : Int) (og : Bool) (ops : List (Int × Int)) (od : List Int) (r : ORef) (ho : ORd w (TB u g b) ⟨29, oa, ob, og, ops, od⟩ r)  :
    Calls Try.prog 118 #[.pointer (some ⟨u, 0, none⟩), OVal ⟨29, oa, ob, og, ops, od⟩ r] w fun e w' => e = .returned (.int .i64 (s.dO ⟨29, oa, ob, og, ops, od⟩).2) ∧ BrL w' u g b cap (s.dO ⟨29, oa, ob, og, ops, od⟩).1 ∧ Chg (SG u g b) w w' := by
  have hul := x.hl
  have hdo : s.dO ⟨29, oa, ob, og, ops, od⟩ = ({ (s.act ⟨29, oa, ob, og, ops, od⟩).1 with laid := false }, (s.act ⟨29, oa, ob, og, ops, od⟩).2) := by
    unfold Br.dO
    rw [if_pos (by rfl)]
    have : isData ⟨29, oa, ob, og, ops, od⟩ = false := by rfl
    rw [this]
  rw [hdo]
  clear hdo
  have hac := fun (w1 : World) (x1 : BrL w1 u g b cap s) (h1 : Below w.heap.size w w1) => act_call x1 ⟨29, oa, ob, og, ops, od⟩ r (ho.weak' h1) 171 (by simp)
  obtain ⟨⟨t, n⟩, ht⟩ : ∃ y, s.act ⟨29, oa, ob, og, ops, od⟩ = y := ⟨_, rfl⟩
  rw [ht] at hac ⊢
  clear ht
  have HAC := Lib.hid hac
  clear hac ho
  unfold OVal
  go_enter Try.func118, Try.ntmps118
  go_wp2_with fail
  refine (HAC.out _ (x.below (by with_reducible (repeat (first | exact Below.refl _ _ | assumption | (refine Below.setCell ?_ (by first | omega | (simp; done) | (simp; omega)) _) | (refine Below.alloc ?_ (by first | omega | (simp; done) | (simp; omega)) _) | (refine below_drewN ?_ _) | (refine Below.drew ?_) | (refine Below.trans ?_ (Below.mono hb (by first | omega | (simp; done) | (simp; omega)))) | (refine Below.trans ?_ (Below.mono hb1 (by first | omega | (simp; done) | (simp; omega)))) | (refine Below.trans ?_ (Below.mono hb2 (by first | omega | (simp; done) | (simp; omega)))) | (refine Below.trans ?_ (Below.mono hb3 (by first | omega | (simp; done) | (simp; omega)))) | (refine Below.trans ?_ (Below.mono hb4 (by first | omega | (simp; done) | (simp; omega)))) | (refine Below.trans ?_ (Below.mono hb5 (by first | omega | (simp; done) | (simp; omega)))) | (refine Below.trans ?_ (Below.mono hb6 (by first | omega | (simp; done) | (simp; omega)))) | (refine Below.trans ?_ (Below.mono hb7 (by first | omega | (simp; done) | (simp; omega)))) | (refine Below.trans ?_ (Below.mono hb8 (by first | omega | (simp; done) | (simp; omega)))) | (refine Below.trans ?_ (Below.mono hb9 (by first | omega | (simp; done) | (simp; omega)))) | (refine Below.trans ?_ (Below.mono hb10 (by first | omega | (simp; done) | (simp; omega)))) | (refine Below.trans ?_ (Below.mono hb11 (by first | omega | (simp; done) | (simp; omega)))) | (refine Below.trans ?_ (Below.mono hb12 (by first | omega | (simp; done) | (simp; omega)))))))) (by with_reducible (repeat (first | exact Below.refl _ _ | assumption | (refine Below.setCell ?_ (by first | omega | (simp; done) | (simp; omega)) _) | (refine Below.alloc ?_ (by first | omega | (simp; done) | (simp; omega)) _) | (refine below_drewN ?_ _) | (refine Below.drew ?_) | (refine Below.trans ?_ (Below.mono hb (by first | omega | (simp; done) | (simp; omega)))) | (refine Below.trans ?_ (Below.mono hb1 (by first | omega | (simp; done) | (simp; omega)))) | (refine Below.trans ?_ (Below.mono hb2 (by first | omega | (simp; done) | (simp; omega)))) | (refine Below.trans ?_ (Below.mono hb3 (by first | omega | (simp; done) | (simp; omega)))) | (refine Below.trans ?_ (Below.mono hb4 (by first | omega | (simp; done) | (simp; omega)))) | (refine Below.trans ?_ (Below.mono hb5 (by first | omega | (simp; done) | (simp; omega)))) | (refine Below.trans ?_ (Below.mono hb6 (by first | omega | (simp; done) | (simp; omega)))) | (refine Below.trans ?_ (Below.mono hb7 (by first | omega | (simp; done) | (simp; omega)))) | (refine Below.trans ?_ (Below.mono hb8 (by first | omega | (simp; done) | (simp; omega)))) | (refine Below.trans ?_ (Below.mono hb9 (by first | omega | (simp; done) | (simp; omega)))) | (refine Below.trans ?_ (Below.mono hb10 (by first | omega | (simp; done) | (simp; omega)))) | (refine Below.trans ?_ (Below.mono hb11 (by first | omega | (simp; done) | (simp; omega)))) | (refine Below.trans ?_ (Below.mono hb12 (by first | omega | (simp; done) | (simp; omega)))))))).mono ?_
  rintro e w1 ⟨rfl, hx1, hk1⟩
  have hgl := x.pl.gl
  have hbl := x.pl.bl
  have hns : ¬ SG u g b w.heap.size := by unfold SG; omega
  have y0 : w1.cell? ⟨w.heap.size, 0, none⟩ = some (.int .u8 29) := cell_keepC (by simp [go_sem]) hk1 hns
  have y5 : w1.cell? ⟨w.heap.size, 5, none⟩ = some (.slice r.da od.length r.dc) := cell_keepC (by simp [go_sem]) hk1 hns
  have c7 := hx1.c7
  have fz := hx1.fz
  have hB1 : Chg (SG u g b) w w1 := chg_bel (by with_reducible (repeat (first | exact Below.refl _ _ | assumption | (refine Below.setCell ?_ (by first | omega | (simp; done) | (simp; omega)) _) | (refine Below.alloc ?_ (by first | omega | (simp; done) | (simp; omega)) _) | (refine below_drewN ?_ _) | (refine Below.drew ?_) | (refine Below.trans ?_ (Below.mono hb (by first | omega | (simp; done) | (simp; omega)))) | (refine Below.trans ?_ (Below.mono hb1 (by first | omega | (simp; done) | (simp; omega)))) | (refine Below.trans ?_ (Below.mono hb2 (by first | omega | (simp; done) | (simp; omega)))) | (refine Below.trans ?_ (Below.mono hb3 (by first | omega | (simp; done) | (simp; omega)))) | (refine Below.trans ?_ (Below.mono hb4 (by first | omega | (simp; done) | (simp; omega)))) | (refine Below.trans ?_ (Below.mono hb5 (by first | omega | (simp; done) | (simp; omega)))) | (refine Below.trans ?_ (Below.mono hb6 (by first | omega | (simp; done) | (simp; omega)))) | (refine Below.trans ?_ (Below.mono hb7 (by first | omega | (simp; done) | (simp; omega)))) | (refine Below.trans ?_ (Below.mono hb8 (by first | omega | (simp; done) | (simp; omega)))) | (refine Below.trans ?_ (Below.mono hb9 (by first | omega | (simp; done) | (simp; omega)))) | (refine Below.trans ?_ (Below.mono hb10 (by first | omega | (simp; done) | (simp; omega)))) | (refine Below.trans ?_ (Below.mono hb11 (by first | omega | (simp; done) | (simp; omega)))) | (refine Below.trans ?_ (Below.mono hb12 (by first | omega | (simp; done) | (simp; omega))))))) hk1
  clear hk1 hns
  go_wp2
  go_ret
  exact ⟨rfl, hx1.lays false, Chg.setCell (S := SG u g b) hB1 (.inl (.inl rfl)) _⟩
theorem do_41 (x : BrL w u g b cap s) (oa ob : Int) (og : Bool) (ops : List (Int × Int)) (od : List Int) (r : ORef) (ho : ORd w (TB u g b) ⟨41, oa, ob, og, ops, od⟩ r)  :
    Calls Try.prog 118 #[.pointer (some ⟨u, 0, none⟩), OVal ⟨41, oa, ob, og, ops, od⟩ r] w fun e w' => e = .returned (.int .i64 (s.dO ⟨41, oa, ob, og, ops, od⟩).2) ∧ BrL w' u g b cap (s.dO ⟨41, oa, ob, og, ops, od⟩).1 ∧ Chg (SG u g b) w w' := by
  have hul := x.hl
  have hdo : s.dO ⟨41, oa, ob, og, ops, od⟩ = ({ (s.act ⟨41, oa, ob, og, ops, od⟩).1 with laid := false }, (s.act ⟨41, oa, ob, og, ops, od⟩).2) := by
    unfold Br.dO
    rw [if_pos (by rfl)]
    have : isData ⟨41, oa, ob, og, ops, od⟩ = false := by rfl
    rw [this]
  rw [hdo]
  clear hdo
  have hac := fun (w1 : World) (x1 : BrL w1 u g b cap s) (h1 : Below w.heap.size w w1) => act_call x1 ⟨41, oa, ob, og, ops, od⟩ r (ho.weak' h1) 171 (by simp)
  obtain ⟨⟨t, n⟩, ht⟩ : ∃ y, s.act ⟨41, oa, ob, og, ops, od⟩ = y := ⟨_, rfl⟩
  rw [ht] at hac ⊢
  clear ht
  have HAC := Lib.hid hac
  clear hac ho
  unfold OVal
  go_enter Try.func118, Try.ntmps118
  go_wp2_with fail
  refine (HAC.out _ (x.below (by with_reducible (repeat (first | exact Below.refl _ _ | assumption | (refine Below.setCell ?_ (by first | omega | (simp; done) | (simp; omega)) _) | (refine Below.alloc ?_ (by first | omega | (simp; done) | (simp; omega)) _) | (refine below_drewN ?_ _) | (refine Below.drew ?_) | (refine Below.trans ?_ (Below.mono hb (by first | omega | (simp; done) | (simp; omega)))) | (refine Below.trans ?_ (Below.mono hb1 (by first | omega | (simp; done) | (simp; omega)))) | (refine Below.trans ?_ (Below.mono hb2 (by first | omega | (simp; done) | (simp; omega)))) | (refine Below.trans ?_ (Below.mono hb3 (by first | omega | (simp; done) | (simp; omega)))) | (refine Below.trans ?_ (Below.mono hb4 (by first | omega | (simp; done) | (simp; omega)))) | (refine Below.trans ?_ (Below.mono hb5 (by first | omega | (simp; done) | (simp; omega)))) | (refine Below.trans ?_ (Below.mono hb6 (by first | omega | (simp; done) | (simp; omega)))) | (refine Below.trans ?_ (Below.mono hb7 (by first | omega | (simp; done) | (simp; omega)))) | (refine Below.trans ?_ (Below.mono hb8 (by first | omega | (simp; done) | (simp; omega)))) | (refine Below.trans ?_ (Below.mono hb9 (by first | omega | (simp; done) | (simp; omega)))) | (refine Below.trans ?_ (Below.mono hb10 (by first | omega | (simp; done) | (simp; omega)))) | (refine Below.trans ?_ (Below.mono hb11 (by first | omega | (simp; done) | (simp; omega)))) | (refine Below.trans ?_ (Below.mono hb12 (by first | omega | (simp; done) | (simp; omega)))))))) (by with_reducible (repeat (first | exact Below.refl _ _ | assumption | (refine Below.setCell ?_ (by first | omega | (simp; done) | (simp; omega)) _) | (refine Below.alloc ?_ (by first | omega | (simp; done) | (simp; omega)) _) | (refine below_drewN ?_ _) | (refine Below.drew ?_) | (refine Below.trans ?_ (Below.mono hb (by first | omega | (simp; done) | (simp; omega)))) | (refine Below.trans ?_ (Below.mono hb1 (by first | omega | (simp; done) | (simp; omega)))) | (refine Below.trans ?_ (Below.mono hb2 (by first | omega | (simp; done) | (simp; omega)))) | (refine Below.trans ?_ (Below.mono hb3 (by first | omega | (simp; done) | (simp; omega)))) | (refine Below.trans ?_ (Below.mono hb4 (by first | omega | (simp; done) | (simp; omega)))) | (refine Below.trans ?_ (Below.mono hb5 (by first | omega | (simp; done) | (simp; omega)))) | (refine Below.trans ?_ (Below.mono hb6 (by first | omega | (simp; done) | (simp; omega)))) | (refine Below.trans ?_ (Below.mono hb7 (by first | omega | (simp; done) | (simp; omega)))) | (refine Below.trans ?_ (Below.mono hb8 (by first | omega | (simp; done) | (simp; omega)))) | (refine Below.trans ?_ (Below.mono hb9 (by first | omega | (simp; done) | (simp; omega)))) | (refine Below.trans ?_ (Below.mono hb10 (by first | omega | (simp; done) | (simp; omega)))) | (refine Below.trans ?_ (Below.mono hb11 (by first | omega | (simp; done) | (simp; omega)))) | (refine Below.trans ?_ (Below.mono hb12 (by first | omega | (simp; done) | (simp; omega)))))))).mono ?_
  rintro e w1 ⟨rfl, hx1, hk1⟩
  have hgl := x.pl.gl
  have hbl := x.pl.bl
  have hns : ¬ SG u g b w.heap.size := by unfold SG; omega
  have y0 : w1.cell? ⟨w.heap.size, 0, none⟩ = some (.int .u8 41) := cell_keepC (by simp [go_sem]) hk1 hns
  have y5 : w1.cell? ⟨w.heap.size, 5, none⟩ = some (.slice r.da od.length r.dc) := cell_keepC (by simp [go_sem]) hk1 hns
  have c7 := hx1.c7
  have fz := hx1.fz
  have hB1 : Chg (SG u g b) w w1 := chg_bel (by with_reducible (repeat (first | exact Below.refl _ _ | assumption | (refine Below.setCell ?_ (by first | omega | (simp; done) | (simp; omega)) _) | (refine Below.alloc ?_ (by first | omega | (simp; done) | (simp; omega)) _) | (refine below_drewN ?_ _) | (refine Below.drew ?_) | (refine Below.trans ?_ (Below.mono hb (by first | omega | (simp; done) | (simp; omega)))) | (refine Below.trans ?_ (Below.mono hb1 (by first | omega | (simp; done) | (simp; omega)))) | (refine Below.trans ?_ (Below.mono hb2 (by first | omega | (simp; done) | (simp; omega)))) | (refine Below.trans ?_ (Below.mono hb3 (by first | omega | (simp; done) | (simp; omega)))) | (refine Below.trans ?_ (Below.mono hb4 (by first | omega | (simp; done) | (simp; omega)))) | (refine Below.trans ?_ (Below.mono hb5 (by first | omega | (simp; done) | (simp; omega)))) | (refine Below.trans ?_ (Below.mono hb6 (by first | omega | (simp; done) | (simp; omega)))) | (refine Below.trans ?_ (Below.mono hb7 (by first | omega | (simp; done) | (simp; omega)))) | (refine Below.trans ?_ (Below.mono hb8 (by first | omega | (simp; done) | (simp; omega)))) | (refine Below.trans ?_ (Below.mono hb9 (by first | omega | (simp; done) | (simp; omega)))) | (refine Below.trans ?_ (Below.mono hb10 (by first | omega | (simp; done) | (simp; omega)))) | (refine Below.trans ?_ (Below.mono hb11 (by first | omega | (simp; done) | (simp; omega)))) | (refine Below.trans ?_ (Below.mono hb12 (by first | omega | (simp; done) | (simp; omega))))))) hk1
  clear hk1 hns
  go_wp2
  go_ret
  exact ⟨rfl, hx1.lays false, Chg.setCell (S := SG u g b) hB1 (.inl (.inl rfl)) _⟩
theorem do_40 (x : BrL w u g b cap s) (oa ob : Int) (og : Bool) (ops : List (Int × Int)) (od : List Int) (r : ORef) (ho : ORd w (TB u g b) ⟨40, oa, ob, og, ops, od⟩ r)  :
    Calls Try.prog 118 #[.pointer (some ⟨u, 0, none⟩), OVal ⟨40, oa, ob, og, ops, od⟩ r] w fun e w' => e = .returned (.int .i64 (s.dO ⟨40, oa, ob, og, ops, od⟩).2) ∧ BrL w' u g b cap (s.dO ⟨40, oa, ob, og, ops, od⟩).1 ∧ Chg (SG u g b) w w' := by
  have hul := x.hl
  have hdo : s.dO ⟨40, oa, ob, og, ops, od⟩ = ({ (s.act ⟨40, oa, ob, og, ops, od⟩).1 with laid := false }, (s.act ⟨40, oa, ob, og, ops, od⟩).2) := by
    unfold Br.dO
    rw [if_pos (by rfl)]
    have : isData ⟨40, oa, ob, og, ops, od⟩ = false := by rfl
    rw [this]
  rw [hdo]
  clear hdo
  have hac := fun (w1 : World) (x1 : BrL w1 u g b cap s) (h1 : Below w.heap.size w w1) => act_call x1 ⟨40, oa, ob, og, ops, od⟩ r (ho.weak' h1) 172 (by simp)
  obtain ⟨⟨t, n⟩, ht⟩ : ∃ y, s.act ⟨40, oa, ob, og, ops, od⟩ = y := ⟨_, rfl⟩
  rw [ht] at hac ⊢
  clear ht
  have HAC := Lib.hid hac
  clear hac ho
  unfold OVal
  go_enter Try.func118, Try.ntmps118
  go_wp2_with fail
  refine (HAC.out _ (x.below (by with_reducible (repeat (first | exact Below.refl _ _ | assumption | (refine Below.setCell ?_ (by first | omega | (simp; done) | (simp; omega)) _) | (refine Below.alloc ?_ (by first | omega | (simp; done) | (simp; omega)) _) | (refine below_drewN ?_ _) | (refine Below.drew ?_) | (refine Below.trans ?_ (Below.mono hb (by first | omega | (simp; done) | (simp; omega)))) | (refine Below.trans ?_ (Below.mono hb1 (by first | omega | (simp; done) | (simp; omega)))) | (refine Below.trans ?_ (Below.mono hb2 (by first | omega | (simp; done) | (simp; omega)))) | (refine Below.trans ?_ (Below.mono hb3 (by first | omega | (simp; done) | (simp; omega)))) | (refine Below.trans ?_ (Below.mono hb4 (by first | omega | (simp; done) | (simp; omega)))) | (refine Below.trans ?_ (Below.mono hb5 (by first | omega | (simp; done) | (simp; omega)))) | (refine Below.trans ?_ (Below.mono hb6 (by first | omega | (simp; done) | (simp; omega)))) | (refine Below.trans ?_ (Below.mono hb7 (by first | omega | (simp; done) | (simp; omega)))) | (refine Below.trans ?_ (Below.mono hb8 (by first | omega | (simp; done) | (simp; omega)))) | (refine Below.trans ?_ (Below.mono hb9 (by first | omega | (simp; done) | (simp; omega)))) | (refine Below.trans ?_ (Below.mono hb10 (by first | omega | (simp; done) | (simp; omega)))) | (refine Below.trans ?_ (Below.mono hb11 (by first | omega | (simp; done) | (simp; omega)))) | (refine Below.trans ?_ (Below.mono hb12 (by first | omega | (simp; done) | (simp; omega)))))))) (by with_reducible (repeat (first | exact Below.refl _ _ | assumption | (refine Below.setCell ?_ (by first | omega | (simp; done) | (simp; omega)) _) | (refine Below.alloc ?_ (by first | omega | (simp; done) | (simp; omega)) _) | (refine below_drewN ?_ _) | (refine Below.drew ?_) | (refine Below.trans ?_ (Below.mono hb (by first | omega | (simp; done) | (simp; omega)))) | (refine Below.trans ?_ (Below.mono hb1 (by first | omega | (simp; done) | (simp; omega)))) | (refine Below.trans ?_ (Below.mono hb2 (by first | omega | (simp; done) | (simp; omega)))) | (refine Below.trans ?_ (Below.mono hb3 (by first | omega | (simp; done) | (simp; omega)))) | (refine Below.trans ?_ (Below.mono hb4 (by first | omega | (simp; done) | (simp; omega)))) | (refine Below.trans ?_ (Below.mono hb5 (by first | omega | (simp; done) | (simp; omega)))) | (refine Below.trans ?_ (Below.mono hb6 (by first | omega | (simp; done) | (simp; omega)))) | (refine Below.trans ?_ (Below.mono hb7 (by first | omega | (simp; done) | (simp; omega)))) | (refine Below.trans ?_ (Below.mono hb8 (by first | omega | (simp; done) | (simp; omega)))) | (refine Below.trans ?_ (Below.mono hb9 (by first | omega | (simp; done) | (simp; omega)))) | (refine Below.trans ?_ (Below.mono hb10 (by first | omega | (simp; done) | (simp; omega)))) | (refine Below.trans ?_ (Below.mono hb11 (by first | omega | (simp; done) | (simp; omega)))) | (refine Below.trans ?_ (Below.mono hb12 (by first | omega | (simp; done) | (simp; omega)))))))).mono ?_
  rintro e w1 ⟨rfl, hx1, hk1⟩
  have hgl := x.pl.gl
  have hbl := x.pl.bl
  have hns : ¬ SG u g b w.heap.size := by unfold SG; omega
  have y0 : w1.cell? ⟨w.heap.size, 0, none⟩ = some (.int .u8 40) := cell_keepC (by simp [go_sem]) hk1 hns
  have y5 : w1.cell? ⟨w.heap.size, 5, none⟩ = some (.slice r.da od.length r.dc) := cell_keepC (by simp [go_sem]) hk1 hns
  have c7 := hx1.c7
  have fz := hx1.fz
  have hB1 : Chg (SG u g b) w w1 := chg_bel (by with_reducible (repeat (first | exact Below.refl _ _ | assumption | (refine Below.setCell ?_ (by first | omega | (simp; done) | (simp; omega)) _) | (refine Below.alloc ?_ (by first | omega | (simp; done) | (simp; omega)) _) | (refine below_drewN ?_ _) | (refine Below.drew ?_) | (refine Below.trans ?_ (Below.mono hb (by first | omega | (simp; done) | (simp; omega)))) | (refine Below.trans ?_ (Below.mono hb1 (by first | omega | (simp; done) | (simp; omega)))) | (refine Below.trans ?_ (Below.mono hb2 (by first | omega | (simp; done) | (simp; omega)))) | (refine Below.trans ?_ (Below.mono hb3 (by first | omega | (simp; done) | (simp; omega)))) | (refine Below.trans ?_ (Below.mono hb4 (by first | omega | (simp; done) | (simp; omega)))) | (refine Below.trans ?_ (Below.mono hb5 (by first | omega | (simp; done) | (simp; omega)))) | (refine Below.trans ?_ (Below.mono hb6 (by first | omega | (simp; done) | (simp; omega)))) | (refine Below.trans ?_ (Below.mono hb7 (by first | omega | (simp; done) | (simp; omega)))) | (refine Below.trans ?_ (Below.mono hb8 (by first | omega | (simp; done) | (simp; omega)))) | (refine Below.trans ?_ (Below.mono hb9 (by first | omega | (simp; done) | (simp; omega)))) | (refine Below.trans ?_ (Below.mono hb10 (by first | omega | (simp; done) | (simp; omega)))) | (refine Below.trans ?_ (Below.mono hb11 (by first | omega | (simp; done) | (simp; omega)))) | (refine Below.trans ?_ (Below.mono hb12 (by first | omega | (simp; done) | (simp; omega))))))) hk1
  clear hk1 hns
  go_wp2
  go_ret
  exact ⟨rfl, hx1.lays false, Chg.setCell (S := SG u g b) hB1 (.inl (.inl rfl)) _⟩
theorem do_44 (x : BrL w u g b cap s) (oa ob : Int) (og : Bool) (ops : List (Int × Int)) (od : List Int) (r : ORef) (ho : ORd w (TB u g b) ⟨44, oa, ob, og, ops, od⟩ r)  :
    Calls Try.prog 118 #[.pointer (some ⟨u, 0, none⟩), OVal ⟨44, oa, ob, og, ops, od⟩ r] w fun e w' => e = .returned (.int .i64 (s.dO ⟨44, oa, ob, og, ops, od⟩).2) ∧ BrL w' u g b cap (s.dO ⟨44, oa, ob, og, ops, od⟩).1 ∧ Chg (SG u g b) w w' := by
  have hul := x.hl
  have hdo : s.dO ⟨44, oa, ob, og, ops, od⟩ = ({ (s.act ⟨44, oa, ob, og, ops, od⟩).1 with laid := false }, (s.act ⟨44, oa, ob, og, ops, od⟩).2) := by
    unfold Br.dO
    rw [if_pos (by rfl)]
    have : isData ⟨44, oa, ob, og, ops, od⟩ = false := by rfl
    rw [this]
  rw [hdo]
  clear hdo
  have hac := fun (w1 : World) (x1 : BrL w1 u g b cap s) (h1 : Below w.heap.size w w1) => act_call x1 ⟨44, oa, ob, og, ops, od⟩ r (ho.weak' h1) 173 (by simp)
  obtain ⟨⟨t, n⟩, ht⟩ : ∃ y, s.act ⟨44, oa, ob, og, ops, od⟩ = y := ⟨_, rfl⟩
  rw [ht] at hac ⊢
  clear ht
  have HAC := Lib.hid hac
  clear hac ho
  unfold OVal
  go_enter Try.func118, Try.ntmps118
  go_wp2_with fail
  refine (HAC.out _ (x.below (by with_reducible (repeat (first | exact Below.refl _ _ | assumption | (refine Below.setCell ?_ (by first | omega | (simp; done) | (simp; omega)) _) | (refine Below.alloc ?_ (by first | omega | (simp; done) | (simp; omega)) _) | (refine below_drewN ?_ _) | (refine Below.drew ?_) | (refine Below.trans ?_ (Below.mono hb (by first | omega | (simp; done) | (simp; omega)))) | (refine Below.trans ?_ (Below.mono hb1 (by first | omega | (simp; done) | (simp; omega)))) | (refine Below.trans ?_ (Below.mono hb2 (by first | omega | (simp; done) | (simp; omega)))) | (refine Below.trans ?_ (Below.mono hb3 (by first | omega | (simp; done) | (simp; omega)))) | (refine Below.trans ?_ (Below.mono hb4 (by first | omega | (simp; done) | (simp; omega)))) | (refine Below.trans ?_ (Below.mono hb5 (by first | omega | (simp; done) | (simp; omega)))) | (refine Below.trans ?_ (Below.mono hb6 (by first | omega | (simp; done) | (simp; omega)))) | (refine Below.trans ?_ (Below.mono hb7 (by first | omega | (simp; done) | (simp; omega)))) | (refine Below.trans ?_ (Below.mono hb8 (by first | omega | (simp; done) | (simp; omega)))) | (refine Below.trans ?_ (Below.mono hb9 (by first | omega | (simp; done) | (simp; omega)))) | (refine Below.trans ?_ (Below.mono hb10 (by first | omega | (simp; done) | (simp; omega)))) | (refine Below.trans ?_ (Below.mono hb11 (by first | omega | (simp; done) | (simp; omega)))) | (refine Below.trans ?_ (Below.mono hb12 (by first | omega | (simp; done) | (simp; omega)))))))) (by with_reducible (repeat (first | exact Below.refl _ _ | assumption | (refine Below.setCell ?_ (by first | omega | (simp; done) | (simp; omega)) _) | (refine Below.alloc ?_ (by first | omega | (simp; done) | (simp; omega)) _) | (refine below_drewN ?_ _) | (refine Below.drew ?_) | (refine Below.trans ?_ (Below.mono hb (by first | omega | (simp; done) | (simp; omega)))) | (refine Below.trans ?_ (Below.mono hb1 (by first | omega | (simp; done) | (simp; omega)))) | (refine Below.trans ?_ (Below.mono hb2 (by first | omega | (simp; done) | (simp; omega)))) | (refine Below.trans ?_ (Below.mono hb3 (by first | omega | (simp; done) | (simp; omega)))) | (refine Below.trans ?_ (Below.mono hb4 (by first | omega | (simp; done) | (simp; omega)))) | (refine Below.trans ?_ (Below.mono hb5 (by first | omega | (simp; done) | (simp; omega)))) | (refine Below.trans ?_ (Below.mono hb6 (by first | omega | (simp; done) | (simp; omega)))) | (refine Below.trans ?_ (Below.mono hb7 (by first | omega | (simp; done) | (simp; omega)))) | (refine Below.trans ?_ (Below.mono hb8 (by first | omega | (simp; done) | (simp; omega)))) | (refine Below.trans ?_ (Below.mono hb9 (by first | omega | (simp; done) | (simp; omega)))) | (refine Below.trans ?_ (Below.mono hb10 (by first | omega | (simp; done) | (simp; omega)))) | (refine Below.trans ?_ (Below.mono hb11 (by first | omega | (simp; done) | (simp; omega)))) | (refine Below.trans ?_ (Below.mono hb12 (by first | omega | (simp; done) | (simp; omega)))))))).mono ?_
  rintro e w1 ⟨rfl, hx1, hk1⟩
  have hgl := x.pl.gl
  have hbl := x.pl.bl
  have hns : ¬ SG u g b w.heap.size := by unfold SG; omega
  have y0 : w1.cell? ⟨w.heap.size, 0, none⟩ = some (.int .u8 44) := cell_keepC (by simp [go_sem]) hk1 hns
  have y5 : w1.cell? ⟨w.heap.size, 5, none⟩ = some (.slice r.da od.length r.dc) := cell_keepC (by simp [go_sem]) hk1 hns
  have c7 := hx1.c7
  have fz := hx1.fz
  have hB1 : Chg (SG u g b) w w1 := chg_bel (by with_reducible (repeat (first | exact Below.refl _ _ | assumption | (refine Below.setCell ?_ (by first | omega | (simp; done) | (simp; omega)) _) | (refine Below.alloc ?_ (by first | omega | (simp; done) | (simp; omega)) _) | (refine below_drewN ?_ _) | (refine Below.drew ?_) | (refine Below.trans ?_ (Below.mono hb (by first | omega | (simp; done) | (simp; omega)))) | (refine Below.trans ?_ (Below.mono hb1 (by first | omega | (simp; done) | (simp; omega)))) | (refine Below.trans ?_ (Below.mono hb2 (by first | omega | (simp; done) | (simp; omega)))) | (refine Below.trans ?_ (Below.mono hb3 (by first | omega | (simp; done) | (simp; omega)))) | (refine Below.trans ?_ (Below.mono hb4 (by first | omega | (simp; done) | (simp; omega)))) | (refine Below.trans ?_ (Below.mono hb5 (by first | omega | (simp; done) | (simp; omega)))) | (refine Below.trans ?_ (Below.mono hb6 (by first | omega | (simp; done) | (simp; omega)))) | (refine Below.trans ?_ (Below.mono hb7 (by first | omega | (simp; done) | (simp; omega)))) | (refine Below.trans ?_ (Below.mono hb8 (by first | omega | (simp; done) | (simp; omega)))) | (refine Below.trans ?_ (Below.mono hb9 (by first | omega | (simp; done) | (simp; omega)))) | (refine Below.trans ?_ (Below.mono hb10 (by first | omega | (simp; done) | (simp; omega)))) | (refine Below.trans ?_ (Below.mono hb11 (by first | omega | (simp; done) | (simp; omega)))) | (refine Below.trans ?_ (Below.mono hb12 (by first | omega | (simp; done) | (simp; omega))))))) hk1
  clear hk1 hns
  go_wp2
  go_ret
  exact ⟨rfl, hx1.lays false, Chg.setCell (S := SG u g b) hB1 (.inl (.inl rfl)) _⟩
theorem do_19 (x : BrL w u g b cap s) (oa ob : Int) (og : Bool) (ops : List (Int × Int)) (od : List Int) (r : ORef) (ho : ORd w (TB u g b) ⟨19, oa, ob, og, ops, od⟩ r)  :
    Calls Try.prog 118 #[.pointer (some ⟨u, 0, none⟩), OVal ⟨19, oa, ob, og, ops, od⟩ r] w fun e w' => e = .returned (.int .i64 (s.dO ⟨19, oa, ob, og, ops, od⟩).2) ∧ BrL w' u g b cap (s.dO ⟨19, oa, ob, og, ops, od⟩).1 ∧ Chg (SG u g b) w w' := by
  have hul := x.hl
  have hdo : s.dO ⟨19, oa, ob, og, ops, od⟩ = ({ (s.act ⟨19, oa, ob, og, ops, od⟩).1 with laid := false }, (s.act ⟨19, oa, ob, og, ops, od⟩).2) := by
    unfold Br.dO
    rw [if_pos (by rfl)]
    have : isData ⟨19, oa, ob, og, ops, od⟩ = false := by rfl
    rw [this]
  rw [hdo]
  clear hdo
  have hac := fun (w1 : World) (x1 : BrL w1 u g b cap s) (h1 : Below w.heap.size w w1) => act_call x1 ⟨19, oa, ob, og, ops, od⟩ r (ho.weak' h1) 174 (by simp)
  obtain ⟨⟨t, n⟩, ht⟩ : ∃ y, s.act ⟨19, oa, ob, og, ops, od⟩ = y := ⟨_, rfl⟩
  rw [ht] at hac ⊢
  clear ht
  have HAC := Lib.hid hac
  clear hac ho
  unfold OVal
  go_enter Try.func118, Try.ntmps118
  go_wp2_with fail
  refine (HAC.out _ (x.below (by with_reducible (repeat (first | exact Below.refl _ _ | assumption | (refine Below.setCell ?_ (by first | omega | (simp; done) | (simp; omega)) _) | (refine Below.alloc ?_ (by first | omega | (simp; done) | (simp; omega)) _) | (refine below_drewN ?_ _) | (refine Below.drew ?_) | (refine Below.trans ?_ (Below.mono hb (by first | omega | (simp; done) | (simp; omega)))) | (refine Below.trans ?_ (Below.mono hb1 (by first | omega | (simp; done) | (simp; omega)))) | (refine Below.trans ?_ (Below.mono hb2 (by first | omega | (simp; done) | (simp; omega)))) | (refine Below.trans ?_ (Below.mono hb3 (by first | omega | (simp; done) | (simp; omega)))) | (refine Below.trans ?_ (Below.mono hb4 (by first | omega | (simp; done) | (simp; omega)))) | (refine Below.trans ?_ (Below.mono hb5 (by first | omega | (simp; done) | (simp; omega)))) | (refine Below.trans ?_ (Below.mono hb6 (by first | omega | (simp; done) | (simp; omega)))) | (refine Below.trans ?_ (Below.mono hb7 (by first | omega | (simp; done) | (simp; omega)))) | (refine Below.trans ?_ (Below.mono hb8 (by first | omega | (simp; done) | (simp; omega)))) | (refine Below.trans ?_ (Below.mono hb9 (by first | omega | (simp; done) | (simp; omega)))) | (refine Below.trans ?_ (Below.mono hb10 (by first | omega | (simp; done) | (simp; omega)))) | (refine Below.trans ?_ (Below.mono hb11 (by first | omega | (simp; done) | (simp; omega)))) | (refine Below.trans ?_ (Below.mono hb12 (by first | omega | (simp; done) | (simp; omega)))))))) (by with_reducible (repeat (first | exact Below.refl _ _ | assumption | (refine Below.setCell ?_ (by first | omega | (simp; done) | (simp; omega)) _) | (refine Below.alloc ?_ (by first | omega | (simp; done) | (simp; omega)) _) | (refine below_drewN ?_ _) | (refine Below.drew ?_) | (refine Below.trans ?_ (Below.mono hb (by first | omega | (simp; done) | (simp; omega)))) | (refine Below.trans ?_ (Below.mono hb1 (by first | omega | (simp; done) | (simp; omega)))) | (refine Below.trans ?_ (Below.mono hb2 (by first | omega | (simp; done) | (simp; omega)))) | (refine Below.trans ?_ (Below.mono hb3 (by first | omega | (simp; done) | (simp; omega)))) | (refine Below.trans ?_ (Below.mono hb4 (by first | omega | (simp; done) | (simp; omega)))) | (refine Below.trans ?_ (Below.mono hb5 (by first | omega | (simp; done) | (simp; omega)))) | (refine Below.trans ?_ (Below.mono hb6 (by first | omega | (simp; done) | (simp; omega)))) | (refine Below.trans ?_ (Below.mono hb7 (by first | omega | (simp; done) | (simp; omega)))) | (refine Below.trans ?_ (Below.mono hb8 (by first | omega | (simp; done) | (simp; omega)))) | (refine Below.trans ?_ (Below.mono hb9 (by first | omega | (simp; done) | (simp; omega)))) | (refine Below.trans ?_ (Below.mono hb10 (by first | omega | (simp; done) | (simp; omega)))) | (refine Below.trans ?_ (Below.mono hb11 (by first | omega | (simp; done) | (simp; omega)))) | (refine Below.trans ?_ (Below.mono hb12 (by first | omega | (simp; done) | (simp; omega)))))))).mono ?_
  rintro e w1 ⟨rfl, hx1, hk1⟩
  have hgl := x.pl.gl
  have hbl := x.pl.bl
  have hns : ¬ SG u g b w.heap.size := by unfold SG; omega
  have y0 : w1.cell? ⟨w.heap.size, 0, none⟩ = some (.int .u8 19) := cell_keepC (by simp [go_sem]) hk1 hns
  have y5 : w1.cell? ⟨w.heap.size, 5, none⟩ = some (.slice r.da od.length r.dc) := cell_keepC (by simp [go_sem]) hk1 hns
  have c7 := hx1.c7
  have fz := hx1.fz
  have hB1 : Chg (SG u g b) w w1 := chg_bel (by with_reducible (repeat (first | exact Below.refl _ _ | assumption | (refine Below.setCell ?_ (by first | omega | (simp; done) | (simp; omega)) _) | (refine Below.alloc ?_ (by first | omega | (simp; done) | (simp; omega)) _) | (refine below_drewN ?_ _) | (refine Below.drew ?_) | (refine Below.trans ?_ (Below.mono hb (by first | omega | (simp; done) | (simp; omega)))) | (refine Below.trans ?_ (Below.mono hb1 (by first | omega | (simp; done) | (simp; omega)))) | (refine Below.trans ?_ (Below.mono hb2 (by first | omega | (simp; done) | (simp; omega)))) | (refine Below.trans ?_ (Below.mono hb3 (by first | omega | (simp; done) | (simp; omega)))) | (refine Below.trans ?_ (Below.mono hb4 (by first | omega | (simp; done) | (simp; omega)))) | (refine Below.trans ?_ (Below.mono hb5 (by first | omega | (simp; done) | (simp; omega)))) | (refine Below.trans ?_ (Below.mono hb6 (by first | omega | (simp; done) | (simp; omega)))) | (refine Below.trans ?_ (Below.mono hb7 (by first | omega | (simp; done) | (simp; omega)))) | (refine Below.trans ?_ (Below.mono hb8 (by first | omega | (simp; done) | (simp; omega)))) | (refine Below.trans ?_ (Below.mono hb9 (by first | omega | (simp; done) | (simp; omega)))) | (refine Below.trans ?_ (Below.mono hb10 (by first | omega | (simp; done) | (simp; omega)))) | (refine Below.trans ?_ (Below.mono hb11 (by first | omega | (simp; done) | (simp; omega)))) | (refine Below.trans ?_ (Below.mono hb12 (by first | omega | (simp; done) | (simp; omega))))))) hk1
  clear hk1 hns
  go_wp2
  go_ret
  exact ⟨rfl, hx1.lays false, Chg.setCell (S := SG u g b) hB1 (.inl (.inl rfl)) _⟩
theorem do_5 (x : BrL w u g b cap s) (oa ob : Int) (og : Bool) (ops : List (Int × Int)) (od : List Int) (r : ORef) (ho : ORd w (TB u g b) ⟨5, oa, ob, og, ops, od⟩ r)  :
    Calls Try.prog 118 #[.pointer (some ⟨u, 0, none⟩), OVal ⟨5, oa, ob, og, ops, od⟩ r] w fun e w' => e = .returned (.int .i64 (s.dO ⟨5, oa, ob, og, ops, od⟩).2) ∧ BrL w' u g b cap (s.dO ⟨5, oa, ob, og, ops, od⟩).1 ∧ Chg (SG u g b) w w' := by
  have hul := x.hl
  have hdo : s.dO ⟨5, oa, ob, og, ops, od⟩ = ({ (s.act ⟨5, oa, ob, og, ops, od⟩).1 with laid := false }, (s.act ⟨5, oa, ob, og, ops, od⟩).2) := by
    unfold Br.dO
    rw [if_pos (by rfl)]
    have : isData ⟨5, oa, ob, og, ops, od⟩ = false := by rfl
    rw [this]
  rw [hdo]
  clear hdo
  have hac := fun (w1 : World) (x1 : BrL w1 u g b cap s) (h1 : Below w.heap.size w w1) => act_call x1 ⟨5, oa, ob, og, ops, od⟩ r (ho.weak' h1) 175 (by simp)
  obtain ⟨⟨t, n⟩, ht⟩ : ∃ y, s.act ⟨5, oa, ob, og, ops, od⟩ = y := ⟨_, rfl⟩
  rw [ht] at hac ⊢
  clear ht
  have HAC := Lib.hid hac
  clear hac ho
  unfold OVal
  go_enter Try.func118, Try.ntmps118
  go_wp2_with fail
  refine (HAC.out _ (x.below (by with_reducible (repeat (first | exact Below.refl _ _ | assumption | (refine Below.setCell ?_ (by first | omega | (simp; done) | (simp; omega)) _) | (refine Below.alloc ?_ (by first | omega | (simp; done) | (simp; omega)) _) | (refine below_drewN ?_ _) | (refine Below.drew ?_) | (refine Below.trans ?_ (Below.mono hb (by first | omega | (simp; done) | (simp; omega)))) | (refine Below.trans ?_ (Below.mono hb1 (by first | omega | (simp; done) | (simp; omega)))) | (refine Below.trans ?_ (Below.mono hb2 (by first | omega | (simp; done) | (simp; omega)))) | (refine Below.trans ?_ (Below.mono hb3 (by first | omega | (simp; done) | (simp; omega)))) | (refine Below.trans ?_ (Below.mono hb4 (by first | omega | (simp; done) | (simp; omega)))) | (refine Below.trans ?_ (Below.mono hb5 (by first | omega | (simp; done) | (simp; omega)))) | (refine Below.trans ?_ (Below.mono hb6 (by first | omega | (simp; done) | (simp; omega)))) | (refine Below.trans ?_ (Below.mono hb7 (by first | omega | (simp; done) | (simp; omega)))) | (refine Below.trans ?_ (Below.mono hb8 (by first | omega | (simp; done) | (simp; omega)))) | (refine Below.trans ?_ (Below.mono hb9 (by first | omega | (simp; done) | (simp; omega)))) | (refine Below.trans ?_ (Below.mono hb10 (by first | omega | (simp; done) | (simp; omega)))) | (refine Below.trans ?_ (Below.mono hb11 (by first | omega | (simp; done) | (simp; omega)))) | (refine Below.trans ?_ (Below.mono hb12 (by first | omega | (simp; done) | (simp; omega)))))))) (by with_reducible (repeat (first | exact Below.refl _ _ | assumption | (refine Below.setCell ?_ (by first | omega | (simp; done) | (simp; omega)) _) | (refine Below.alloc ?_ (by first | omega | (simp; done) | (simp; omega)) _) | (refine below_drewN ?_ _) | (refine Below.drew ?_) | (refine Below.trans ?_ (Below.mono hb (by first | omega | (simp; done) | (simp; omega)))) | (refine Below.trans ?_ (Below.mono hb1 (by first | omega | (simp; done) | (simp; omega)))) | (refine Below.trans ?_ (Below.mono hb2 (by first | omega | (simp; done) | (simp; omega)))) | (refine Below.trans ?_ (Below.mono hb3 (by first | omega | (simp; done) | (simp; omega)))) | (refine Below.trans ?_ (Below.mono hb4 (by first | omega | (simp; done) | (simp; omega)))) | (refine Below.trans ?_ (Below.mono hb5 (by first | omega | (simp; done) | (simp; omega)))) | (refine Below.trans ?_ (Below.mono hb6 (by first | omega | (simp; done) | (simp; omega)))) | (refine Below.trans ?_ (Below.mono hb7 (by first | omega | (simp; done) | (simp; omega)))) | (refine Below.trans ?_ (Below.mono hb8 (by first | omega | (simp; done) | (simp; omega)))) | (refine Below.trans ?_ (Below.mono hb9 (by first | omega | (simp; done) | (simp; omega)))) | (refine Below.trans ?_ (Below.mono hb10 (by first | omega | (simp; done) | (simp; omega)))) | (refine Below.trans ?_ (Below.mono hb11 (by first | omega | (simp; done) | (simp; omega)))) | (refine Below.trans ?_ (Below.mono hb12 (by first | omega | (simp; done) | (simp; omega)))))))).mono ?_
  rintro e w1 ⟨rfl, hx1, hk1⟩
  have hgl := x.pl.gl
  have hbl := x.pl.bl
  have hns : ¬ SG u g b w.heap.size := by unfold SG; omega
  have y0 : w1.cell? ⟨w.heap.size, 0, none⟩ = some (.int .u8 5) := cell_keepC (by simp [go_sem]) hk1 hns
  have y5 : w1.cell? ⟨w.heap.size, 5, none⟩ = some (.slice r.da od.length r.dc) := cell_keepC (by simp [go_sem]) hk1 hns
  have c7 := hx1.c7
  have fz := hx1.fz
  have hB1 : Chg (SG u g b) w w1 := chg_bel (by with_reducible (repeat (first | exact Below.refl _ _ | assumption | (refine Below.setCell ?_ (by first | omega | (simp; done) | (simp; omega)) _) | (refine Below.alloc ?_ (by first | omega | (simp; done) | (simp; omega)) _) | (refine below_drewN ?_ _) | (refine Below.drew ?_) | (refine Below.trans ?_ (Below.mono hb (by first | omega | (simp; done) | (simp; omega)))) | (refine Below.trans ?_ (Below.mono hb1 (by first | omega | (simp; done) | (simp; omega)))) | (refine Below.trans ?_ (Below.mono hb2 (by first | omega | (simp; done) | (simp; omega)))) | (refine Below.trans ?_ (Below.mono hb3 (by first | omega | (simp; done) | (simp; omega)))) | (refine Below.trans ?_ (Below.mono hb4 (by first | omega | (simp; done) | (simp; omega)))) | (refine Below.trans ?_ (Below.mono hb5 (by first | omega | (simp; done) | (simp; omega)))) | (refine Below.trans ?_ (Below.mono hb6 (by first | omega | (simp; done) | (simp; omega)))) | (refine Below.trans ?_ (Below.mono hb7 (by first | omega | (simp; done) | (simp; omega)))) | (refine Below.trans ?_ (Below.mono hb8 (by first | omega | (simp; done) | (simp; omega)))) | (refine Below.trans ?_ (Below.mono hb9 (by first | omega | (simp; done) | (simp; omega)))) | (refine Below.trans ?_ (Below.mono hb10 (by first | omega | (simp; done) | (simp; omega)))) | (refine Below.trans ?_ (Below.mono hb11 (by first | omega | (simp; done) | (simp; omega)))) | (refine Below.trans ?_ (Below.mono hb12 (by first | omega | (simp; done) | (simp; omega))))))) hk1
  clear hk1 hns
  go_wp2
  go_ret
  exact ⟨rfl, hx1.lays false, Chg.setCell (S := SG u g b) hB1 (.inl (.inl rfl)) _⟩
theorem do_60 (x : BrL w u g b cap s) (oa ob : Int) (og : Bool) (ops : List (Int × Int)) (od : List Int) (r : ORef) (ho : ORd w (TB u g b) ⟨60, oa, ob, og, ops, od⟩ r)  :
    Calls Try.prog 118 #[.pointer (some ⟨u, 0, none⟩), OVal ⟨60, oa, ob, og, ops, od⟩ r] w fun e w' => e = .returned (.int .i64 (s.dO ⟨60, oa, ob, og, ops, od⟩).2) ∧ BrL w' u g b cap (s.dO ⟨60, oa, ob, og, ops, od⟩).1 ∧ Chg (SG u g b) w w' := by
  have hul := x.hl
  have hdo : s.dO ⟨60, oa, ob, og, ops, od⟩ = ({ (s.act ⟨60, oa, ob, og, ops, od⟩).1 with laid := false }, (s.act ⟨60, oa, ob, og, ops, od⟩).2) := by
    unfold Br.dO
    rw [if_pos (by rfl)]
    have : isData ⟨60, oa, ob, og, ops, od⟩ = false := by rfl
    rw [this]
  rw [hdo]
  clear hdo
  have hac := fun (w1 : World) (x1 : BrL w1 u g b cap s) (h1 : Below w.heap.size w w1) => act_call x1 ⟨60, oa, ob, og, ops, od⟩ r (ho.weak' h1) 176 (by simp)
  obtain ⟨⟨t, n⟩, ht⟩ : ∃ y, s.act ⟨60, oa, ob, og, ops, od⟩ = y := ⟨_, rfl⟩
  rw [ht] at hac ⊢
  clear ht
  have HAC := Lib.hid hac
  clear hac ho
  unfold OVal
  go_enter Try.func118, Try.ntmps118
  go_wp2_with fail
  refine (HAC.out _ (x.below (by with_reducible (repeat (first | exact Below.refl _ _ | assumption | (refine Below.setCell ?_ (by first | omega | (simp; done) | (simp; omega)) _) | (refine Below.alloc ?_ (by first | omega | (simp; done) | (simp; omega)) _) | (refine below_drewN ?_ _) | (refine Below.drew ?_) | (refine Below.trans ?_ (Below.mono hb (by first | omega | (simp; done) | (simp; omega)))) | (refine Below.trans ?_ (Below.mono hb1 (by first | omega | (simp; done) | (simp; omega)))) | (refine Below.trans ?_ (Below.mono hb2 (by first | omega | (simp; done) | (simp; omega)))) | (refine Below.trans ?_ (Below.mono hb3 (by first | omega | (simp; done) | (simp; omega)))) | (refine Below.trans ?_ (Below.mono hb4 (by first | omega | (simp; done) | (simp; omega)))) | (refine Below.trans ?_ (Below.mono hb5 (by first | omega | (simp; done) | (simp; omega)))) | (refine Below.trans ?_ (Below.mono hb6 (by first | omega | (simp; done) | (simp; omega)))) | (refine Below.trans ?_ (Below.mono hb7 (by first | omega | (simp; done) | (simp; omega)))) | (refine Below.trans ?_ (Below.mono hb8 (by first | omega | (simp; done) | (simp; omega)))) | (refine Below.trans ?_ (Below.mono hb9 (by first | omega | (simp; done) | (simp; omega)))) | (refine Below.trans ?_ (Below.mono hb10 (by first | omega | (simp; done) | (simp; omega)))) | (refine Below.trans ?_ (Below.mono hb11 (by first | omega | (simp; done) | (simp; omega)))) | (refine Below.trans ?_ (Below.mono hb12 (by first | omega | (simp; done) | (simp; omega)))))))) (by with_reducible (repeat (first | exact Below.refl _ _ | assumption | (refine Below.setCell ?_ (by first | omega | (simp; done) | (simp; omega)) _) | (refine Below.alloc ?_ (by first | omega | (simp; done) | (simp; omega)) _) | (refine below_drewN ?_ _) | (refine Below.drew ?_) | (refine Below.trans ?_ (Below.mono hb (by first | omega | (simp; done) | (simp; omega)))) | (refine Below.trans ?_ (Below.mono hb1 (by first | omega | (simp; done) | (simp; omega)))) | (refine Below.trans ?_ (Below.mono hb2 (by first | omega | (simp; done) | (simp; omega)))) | (refine Below.trans ?_ (Below.mono hb3 (by first | omega | (simp; done) | (simp; omega)))) | (refine Below.trans ?_ (Below.mono hb4 (by first | omega | (simp; done) | (simp; omega)))) | (refine Below.trans ?_ (Below.mono hb5 (by first | omega | (simp; done) | (simp; omega)))) | (refine Below.trans ?_ (Below.mono hb6 (by first | omega | (simp; done) | (simp; omega)))) | (refine Below.trans ?_ (Below.mono hb7 (by first | omega | (simp; done) | (simp; omega)))) | (refine Below.trans ?_ (Below.mono hb8 (by first | omega | (simp; done) | (simp; omega)))) | (refine Below.trans ?_ (Below.mono hb9 (by first | omega | (simp; done) | (simp; omega)))) | (refine Below.trans ?_ (Below.mono hb10 (by first | omega | (simp; done) | (simp; omega)))) | (refine Below.trans ?_ (Below.mono hb11 (by first | omega | (simp; done) | (simp; omega)))) | (refine Below.trans ?_ (Below.mono hb12 (by first | omega | (simp; done) | (simp; omega)))))))).mono ?_
  rintro e w1 ⟨rfl, hx1, hk1⟩
  have hgl := x.pl.gl
  have hbl := x.pl.bl
  have hns : ¬ SG u g b w.heap.size := by unfold SG; omega
  have y0 : w1.cell? ⟨w.heap.size, 0, none⟩ = some (.int .u8 60) := cell_keepC (by simp [go_sem]) hk1 hns
  have y5 : w1.cell? ⟨w.heap.size, 5, none⟩ = some (.slice r.da od.length r.dc) := cell_keepC (by simp [go_sem]) hk1 hns
  have c7 := hx1.c7
  have fz := hx1.fz
  have hB1 : Chg (SG u g b) w w1 := chg_bel (by with_reducible (repeat (first | exact Below.refl _ _ | assumption | (refine Below.setCell ?_ (by first | omega | (simp; done) | (simp; omega)) _) | (refine Below.alloc ?_ (by first | omega | (simp; done) | (simp; omega)) _) | (refine below_drewN ?_ _) | (refine Below.drew ?_) | (refine Below.trans ?_ (Below.mono hb (by first | omega | (simp; done) | (simp; omega)))) | (refine Below.trans ?_ (Below.mono hb1 (by first | omega | (simp; done) | (simp; omega)))) | (refine Below.trans ?_ (Below.mono hb2 (by first | omega | (simp; done) | (simp; omega)))) | (refine Below.trans ?_ (Below.mono hb3 (by first | omega | (simp; done) | (simp; omega)))) | (refine Below.trans ?_ (Below.mono hb4 (by first | omega | (simp; done) | (simp; omega)))) | (refine Below.trans ?_ (Below.mono hb5 (by first | omega | (simp; done) | (simp; omega)))) | (refine Below.trans ?_ (Below.mono hb6 (by first | omega | (simp; done) | (simp; omega)))) | (refine Below.trans ?_ (Below.mono hb7 (by first | omega | (simp; done) | (simp; omega)))) | (refine Below.trans ?_ (Below.mono hb8 (by first | omega | (simp; done) | (simp; omega)))) | (refine Below.trans ?_ (Below.mono hb9 (by first | omega | (simp; done) | (simp; omega)))) | (refine Below.trans ?_ (Below.mono hb10 (by first | omega | (simp; done) | (simp; omega)))) | (refine Below.trans ?_ (Below.mono hb11 (by first | omega | (simp; done) | (simp; omega)))) | (refine Below.trans ?_ (Below.mono hb12 (by first | omega | (simp; done) | (simp; omega))))))) hk1
  clear hk1 hns
  go_wp2
  go_ret
  exact ⟨rfl, hx1.lays false, Chg.setCell (S := SG u g b) hB1 (.inl (.inl rfl)) _⟩
theorem do_18 (x : BrL w u g b cap s) (oa ob : Int) (og : Bool) (ops : List (Int × Int)) (od : List Int) (r : ORef) (ho : ORd w (TB u g b) ⟨18, oa, ob, og, ops, od⟩ r)  :
    Calls Try.prog 118 #[.pointer (some ⟨u, 0, none⟩), OVal ⟨18, oa, ob, og, ops, od⟩ r] w fun e w' => e = .returned (.int .i64 (s.dO ⟨18, oa, ob, og, ops, od⟩).2) ∧ BrL w' u g b cap (s.dO ⟨18, oa, ob, og, ops, od⟩).1 ∧ Chg (SG u g b) w w' := by
  have hul := x.hl
  have hdo : s.dO ⟨18, oa, ob, og, ops, od⟩ = ({ (s.act ⟨18, oa, ob, og, ops, od⟩).1 with laid := false }, (s.act ⟨18, oa, ob, og, ops, od⟩).2) := by
    unfold Br.dO
    rw [if_pos (by rfl)]
    have : isData ⟨18, oa, ob, og, ops, od⟩ = false := by rfl
    rw [this]
  rw [hdo]
  clear hdo
  have hac := fun (w1 : World) (x1 : BrL w1 u g b cap s) (h1 : Below w.heap.size w w1) => act_call x1 ⟨18, oa, ob, og, ops, od⟩ r (ho.weak' h1) 177 (by simp)
  obtain ⟨⟨t, n⟩, ht⟩ : ∃ y, s.act ⟨18, oa, ob, og, ops, od⟩ = y := ⟨_, rfl⟩
  rw [ht] at hac ⊢
  clear ht
  have HAC := Lib.hid hac
  clear hac ho
  unfold OVal
  go_enter Try.func118, Try.ntmps118
  go_wp2_with fail
  refine (HAC.out _ (x.below (by with_reducible (repeat (first | exact Below.refl _ _ | assumption | (refine Below.setCell ?_ (by first | omega | (simp; done) | (simp; omega)) _) | (refine Below.alloc ?_ (by first | omega | (simp; done) | (simp; omega)) _) | (refine below_drewN ?_ _) | (refine Below.drew ?_) | (refine Below.trans ?_ (Below.mono hb (by first | omega | (simp; done) | (simp; omega)))) | (refine Below.trans ?_ (Below.mono hb1 (by first | omega | (simp; done) | (simp; omega)))) | (refine Below.trans ?_ (Below.mono hb2 (by first | omega | (simp; done) | (simp; omega)))) | (refine Below.trans ?_ (Below.mono hb3 (by first | omega | (simp; done) | (simp; omega)))) | (refine Below.trans ?_ (Below.mono hb4 (by first | omega | (simp; done) | (simp; omega)))) | (refine Below.trans ?_ (Below.mono hb5 (by first | omega | (simp; done) | (simp; omega)))) | (refine Below.trans ?_ (Below.mono hb6 (by first | omega | (simp; done) | (simp; omega)))) | (refine Below.trans ?_ (Below.mono hb7 (by first | omega | (simp; done) | (simp; omega)))) | (refine Below.trans ?_ (Below.mono hb8 (by first | omega | (simp; done) | (simp; omega)))) | (refine Below.trans ?_ (Below.mono hb9 (by first | omega | (simp; done) | (simp; omega)))) | (refine Below.trans ?_ (Below.mono hb10 (by first | omega | (simp; done) | (simp; omega)))) | (refine Below.trans ?_ (Below.mono hb11 (by first | omega | (simp; done) | (simp; omega)))) | (refine Below.trans ?_ (Below.mono hb12 (by first | omega | (simp; done) | (simp; omega)))))))) (by with_reducible (repeat (first | exact Below.refl _ _ | assumption | (refine Below.setCell ?_ (by first | omega | (simp; done) | (simp; omega)) _) | (refine Below.alloc ?_ (by first | omega | (simp; done) | (simp; omega)) _) | (refine below_drewN ?_ _) | (refine Below.drew ?_) | (refine Below.trans ?_ (Below.mono hb (by first | omega | (simp; done) | (simp; omega)))) | (refine Below.trans ?_ (Below.mono hb1 (by first | omega | (simp; done) | (simp; omega)))) | (refine Below.trans ?_ (Below.mono hb2 (by first | omega | (simp; done) | (simp; omega)))) | (refine Below.trans ?_ (Below.mono hb3 (by first | omega | (simp; done) | (simp; omega)))) | (refine Below.trans ?_ (Below.mono hb4 (by first | omega | (simp; done) | (simp; omega)))) | (refine Below.trans ?_ (Below.mono hb5 (by first | omega | (simp; done) | (simp; omega)))) | (refine Below.trans ?_ (Below.mono hb6 (by first | omega | (simp; done) | (simp; omega)))) | (refine Below.trans ?_ (Below.mono hb7 (by first | omega | (simp; done) | (simp; omega)))) | (refine Below.trans ?_ (Below.mono hb8 (by first | omega | (simp; done) | (simp; omega)))) | (refine Below.trans ?_ (Below.mono hb9 (by first | omega | (simp; done) | (simp; omega)))) | (refine Below.trans ?_ (Below.mono hb10 (by first | omega | (simp; done) | (simp; omega)))) | (refine Below.trans ?_ (Below.mono hb11 (by first | omega | (simp; done) | (simp; omega)))) | (refine Below.trans ?_ (Below.mono hb12 (by first | omega | (simp; done) | (simp; omega)))))))).mono ?_
  rintro e w1 ⟨rfl, hx1, hk1⟩
  have hgl := x.pl.gl
  have hbl := x.pl.bl
  have hns : ¬ SG u g b w.heap.size := by unfold SG; omega
  have y0 : w1.cell? ⟨w.heap.size, 0, none⟩ = some (.int .u8 18) := cell_keepC (by simp [go_sem]) hk1 hns
  have y5 : w1.cell? ⟨w.heap.size, 5, none⟩ = some (.slice r.da od.length r.dc) := cell_keepC (by simp [go_sem]) hk1 hns
  have c7 := hx1.c7
  have fz := hx1.fz
  have hB1 : Chg (SG u g b) w w1 := chg_bel (by with_reducible (repeat (first | exact Below.refl _ _ | assumption | (refine Below.setCell ?_ (by first | omega | (simp; done) | (simp; omega)) _) | (refine Below.alloc ?_ (by first | omega | (simp; done) | (simp; omega)) _) | (refine below_drewN ?_ _) | (refine Below.drew ?_) | (refine Below.trans ?_ (Below.mono hb (by first | omega | (simp; done) | (simp; omega)))) | (refine Below.trans ?_ (Below.mono hb1 (by first | omega | (simp; done) | (simp; omega)))) | (refine Below.trans ?_ (Below.mono hb2 (by first | omega | (simp; done) | (simp; omega)))) | (refine Below.trans ?_ (Below.mono hb3 (by first | omega | (simp; done) | (simp; omega)))) | (refine Below.trans ?_ (Below.mono hb4 (by first | omega | (simp; done) | (simp; omega)))) | (refine Below.trans ?_ (Below.mono hb5 (by first | omega | (simp; done) | (simp; omega)))) | (refine Below.trans ?_ (Below.mono hb6 (by first | omega | (simp; done) | (simp; omega)))) | (refine Below.trans ?_ (Below.mono hb7 (by first | omega | (simp; done) | (simp; omega)))) | (refine Below.trans ?_ (Below.mono hb8 (by first | omega | (simp; done) | (simp; omega)))) | (refine Below.trans ?_ (Below.mono hb9 (by first | omega | (simp; done) | (simp; omega)))) | (refine Below.trans ?_ (Below.mono hb10 (by first | omega | (simp; done) | (simp; omega)))) | (refine Below.trans ?_ (Below.mono hb11 (by first | omega | (simp; done) | (simp; omega)))) | (refine Below.trans ?_ (Below.mono hb12 (by first | omega | (simp; done) | (simp; omega))))))) hk1
  clear hk1 hns
  go_wp2
  go_ret
  exact ⟨rfl, hx1.lays false, Chg.setCell (S := SG u g b) hB1 (.inl (.inl rfl)) _⟩

theorem do_un (x : BrL w u g b cap s) (o : Ord) (r : ORef) (hk : known o.kind = false) :
    Calls Try.prog 118 #[.pointer (some ⟨u, 0, none⟩), OVal o r] w fun e w' => e = .returned (.int .i64 (s.dO o).2) ∧ BrL w' u g b cap (s.dO o).1 ∧ Chg (SG u g b) w w' := by
  have hdo : s.dO o = (s, 31) := by unfold Br.dO; rw [hk]; rfl
  rw [hdo]
  clear hdo
  have hul := x.hl
  unfold known at hk
  simp only [Bool.or_eq_false_iff] at hk
  obtain ⟨⟨⟨⟨⟨⟨⟨⟨⟨⟨k1, k2⟩, k3⟩, k4⟩, k5⟩, k6⟩, k7⟩, k8⟩, k9⟩, k10⟩, k11⟩ := hk
  unfold OVal
  go_enter Try.func118, Try.ntmps118
  go_wp2
  go_ret
  exact ⟨rfl, x.below (by with_reducible (repeat (first | exact Below.refl _ _ | assumption | (refine Below.setCell ?_ (by first | omega | (simp; done) | (simp; omega)) _) | (refine Below.alloc ?_ (by first | omega | (simp; done) | (simp; omega)) _) | (refine below_drewN ?_ _) | (refine Below.drew ?_) | (refine Below.trans ?_ (Below.mono hb (by first | omega | (simp; done) | (simp; omega)))) | (refine Below.trans ?_ (Below.mono hb1 (by first | omega | (simp; done) | (simp; omega)))) | (refine Below.trans ?_ (Below.mono hb2 (by first | omega | (simp; done) | (simp; omega)))) | (refine Below.trans ?_ (Below.mono hb3 (by first | omega | (simp; done) | (simp; omega)))) | (refine Below.trans ?_ (Below.mono hb4 (by first | omega | (simp; done) | (simp; omega)))) | (refine Below.trans ?_ (Below.mono hb5 (by first | omega | (simp; done) | (simp; omega)))) | (refine Below.trans ?_ (Below.mono hb6 (by first | omega | (simp; done) | (simp; omega)))) | (refine Below.trans ?_ (Below.mono hb7 (by first | omega | (simp; done) | (simp; omega)))) | (refine Below.trans ?_ (Below.mono hb8 (by first | omega | (simp; done) | (simp; omega)))) | (refine Below.trans ?_ (Below.mono hb9 (by first | omega | (simp; done) | (simp; omega)))) | (refine Below.trans ?_ (Below.mono hb10 (by first | omega | (simp; done) | (simp; omega)))) | (refine Below.trans ?_ (Below.mono hb11 (by first | omega | (simp; done) | (simp; omega)))) | (refine Below.trans ?_ (Below.mono hb12 (by first | omega | (simp; done) | (simp; omega))))))), Chg.of_below (by with_reducible (repeat (first | exact Below.refl _ _ | assumption | (refine Below.setCell ?_ (by first | omega | (simp; done) | (simp; omega)) _) | (refine Below.alloc ?_ (by first | omega | (simp; done) | (simp; omega)) _) | (refine below_drewN ?_ _) | (refine Below.drew ?_) | (refine Below.trans ?_ (Below.mono hb (by first | omega | (simp; done) | (simp; omega)))) | (refine Below.trans ?_ (Below.mono hb1 (by first | omega | (simp; done) | (simp; omega)))) | (refine Below.trans ?_ (Below.mono hb2 (by first | omega | (simp; done) | (simp; omega)))) | (refine Below.trans ?_ (Below.mono hb3 (by first | omega | (simp; done) | (simp; omega)))) | (refine Below.trans ?_ (Below.mono hb4 (by first | omega | (simp; done) | (simp; omega)))) | (refine Below.trans ?_ (Below.mono hb5 (by first | omega | (simp; done) | (simp; omega)))) | (refine Below.trans ?_ (Below.mono hb6 (by first | omega | (simp; done) | (simp; omega)))) | (refine Below.trans ?_ (Below.mono hb7 (by first | omega | (simp; done) | (simp; omega)))) | (refine Below.trans ?_ (Below.mono hb8 (by first | omega | (simp; done) | (simp; omega)))) | (refine Below.trans ?_ (Below.mono hb9 (by first | omega | (simp; done) | (simp; omega)))) | (refine Below.trans ?_ (Below.mono hb10 (by first | omega | (simp; done) | (simp; omega)))) | (refine Below.trans ?_ (Below.mono hb11 (by first | omega | (simp; done) | (simp; omega)))) | (refine Below.trans ?_ (Below.mono hb12 (by first | omega | (simp; done) | (simp; omega)))))))⟩

theorem do_any (x : BrL w u g b cap s) (o : Ord) (r : ORef) (ho : ORd w (TB u g b) o r) :
    Calls Try.prog 118 #[.pointer (some ⟨u, 0, none⟩), OVal o r] w fun e w' => e = .returned (.int .i64 (s.dO o).2) ∧ BrL w' u g b cap (s.dO o).1 ∧ Chg (SG u g b) w w' := by
  cases hk : known o.kind
  · exact do_un x o r hk
  · obtain ⟨ok, oa, ob, og, ops, od⟩ := o
    unfold known at hk
    simp only [Bool.or_eq_true, beq_iff_eq] at hk
    rcases hk with (((((((((rfl | rfl) | rfl) | rfl) | rfl) | rfl) | rfl) | rfl) | rfl) | rfl) | rfl
    · cases hd : decide (0 < od.length)
      · exact do_0e x oa ob og ops od r ho hd
      · exact do_0 x oa ob og ops od r ho hd
    · exact do_8 x oa ob og ops od r ho
    · exact do_17 x oa ob og ops od r ho
    · exact do_29 x oa ob og ops od r ho
    · exact do_41 x oa ob og ops od r ho
    · exact do_40 x oa ob og ops od r ho
    · exact do_44 x oa ob og ops od r ho
    · exact do_19 x oa ob og ops od r ho
    · exact do_5 x oa ob og ops od r ho
    · exact do_60 x oa ob og ops od r ho
    · exact do_18 x oa ob og ops od r ho
end Go.Proofs.Ytbkddgeocmkegaa

namespace Go.Proofs.Ytbkddgeocmkegaa
open Go.RowKit Go.Shelf
set_option linter.unusedSimpArgs false
set_option linter.unusedVariables false
set_option maxHeartbeats 4000000
attribute [local go_sem ↓] run_start run_byte run_cols

variable {w : World} {g b cap : Nat} {P : Pl}
def GB (g b : Nat) : Nat → Prop := fun k => k = g ∨ k = b

theorem Paint_out (h : PL w g b cap P) (os : List Ord) (ao : Option Addr) (cp : Nat) (a : Int) (ha : ¬ (0 ≤ a ∧ a < (P.cells.length : Int))) :
    Calls Try.prog 62 #[.pointer (some ⟨g, 0, none⟩), .slice ao os.length cp, .int .i64 a] w fun e w' => e = .returned (.tuple #[.int .i64 0, .int .i64 0, .int .i64 32]) ∧ Below w.heap.size w w' := by
  by_cases h0 : a < 0
  · go_enter Try.func62, Try.ntmps62
    go_wp2
    go_ret3
    exact ⟨rfl, Below.refl _ _⟩
  · have h1 : (P.cells.length : Int) ≤ a := by omega
    clear ha
    go_enter Try.func62, Try.ntmps62
    go_wp2_with fail
    refine (Len_any h).mono ?_
    rintro e w1 ⟨rfl, hb1⟩
    go_wp2
    go_ret3
    exact ⟨rfl, hb1⟩

theorem BrL.new (h : PL w g b cap P) {a : Int} (a0 : 0 ≤ a) (a1 : a < (P.cells.length : Int)) :
    BrL (w.alloc (.cells #[.pointer (some ⟨g, 0, none⟩), .int .i64 a, .int .u8 0, .bool false, .bool false, .int .u8 0, .int .u8 0, .bool false] 176)) w.heap.size g b cap (Br.new P a) :=
  ⟨World.alloc_heap_new w _, h.below ((Below.refl _ _).alloc (Nat.le_refl _) _), by have := h.gl; omega, by have := h.bl; omega, Br.new_ok h.ok a0 a1⟩

set_option maxRecDepth 100000 in
theorem Paint_in (h : PL w g b cap P) (os : List Ord) (ao : Option Addr) (cp : Nat) (ho : ORow w (GB g b) ao os) (a : Int) (a0 : 0 ≤ a) (a1 : a < (P.cells.length : Int)) (R : Br × Nat × Int) (HR : Hid ((Br.new P a).run os = R)) :
    Calls Try.prog 62 #[.pointer (some ⟨g, 0, none⟩), .slice ao os.length cp, .int .i64 a] w fun e w' => e = .returned (.tuple #[.int .i64 R.1.pos, .int .i64 (R.2.1 : Int), .int .i64 R.2.2]) ∧ PL w' g b cap R.1.P ∧ Chg (GB g b) w w' := by
  have hlen : (os.length : Int) ≤ 9223372036854775807 := by have := ho.1; unfold maxLen at this; omega
  have hgl := h.gl
  have hbl := h.bl
  go_enter Try.func62, Try.ntmps62
  go_wp2_with fail
  refine (Len_any h).mono ?_
  rintro e w0 ⟨rfl, hb0⟩
  have hP0 := h.below hb0
  have ho0 := ho.below hb0
  have hz0 := hb0.size
  go_wp2
  obtain ⟨W, hW⟩ : ∃ W, w0.alloc (.cells #[.pointer (some ⟨g, 0, none⟩), .int .i64 a, .int .u8 0, .bool false, .bool false, .int .u8 0, .int .u8 0, .bool false] 176) = W := ⟨_, rfl⟩
  have hx : BrL W w0.heap.size g b cap (Br.new P a) := by rw [← hW]; exact BrL.new hP0 a0 a1
  have hBW : Below w0.heap.size w0 W := by rw [← hW]; with_reducible (repeat (first | exact Below.refl _ _ | assumption | (refine Below.setCell ?_ (by first | omega | (simp; done) | (simp; omega)) _) | (refine Below.alloc ?_ (by first | omega | (simp; done) | (simp; omega)) _) | (refine below_drewN ?_ _) | (refine Below.drew ?_) | (refine Below.trans ?_ (Below.mono hb (by first | omega | (simp; done) | (simp; omega)))) | (refine Below.trans ?_ (Below.mono hb1 (by first | omega | (simp; done) | (simp; omega)))) | (refine Below.trans ?_ (Below.mono hb2 (by first | omega | (simp; done) | (simp; omega)))) | (refine Below.trans ?_ (Below.mono hb3 (by first | omega | (simp; done) | (simp; omega)))) | (refine Below.trans ?_ (Below.mono hb4 (by first | omega | (simp; done) | (simp; omega)))) | (refine Below.trans ?_ (Below.mono hb5 (by first | omega | (simp; done) | (simp; omega)))) | (refine Below.trans ?_ (Below.mono hb6 (by first | omega | (simp; done) | (simp; omega)))) | (refine Below.trans ?_ (Below.mono hb7 (by first | omega | (simp; done) | (simp; omega)))) | (refine Below.trans ?_ (Below.mono hb8 (by first | omega | (simp; done) | (simp; omega)))) | (refine Below.trans ?_ (Below.mono hb9 (by first | omega | (simp; done) | (simp; omega)))) | (refine Below.trans ?_ (Below.mono hb10 (by first | omega | (simp; done) | (simp; omega)))) | (refine Below.trans ?_ (Below.mono hb11 (by first | omega | (simp; done) | (simp; omega)))) | (refine Below.trans ?_ (Below.mono hb12 (by first | omega | (simp; done) | (simp; omega))))))
  have hoW : ORow W (TB w0.heap.size g b) ao os := (ho0.weak (U := TB w0.heap.size g b) (fun k hk e => by rcases e with e | e; omega; exact e)).below hBW
  have hzW := hBW.size
  rw [hW]
  have HW := Lib.hid hW
  clear hW hP0 ho0 ho h
  go_loopw [27] (fun i wr => ∃ k : Nat, k ≤ os.length ∧ i = .int .i64 (k : Int) ∧ ∃ t : Br, BrL wr w0.heap.size g b cap t ∧ Hid ((Br.new P a).run os = ((t.run (os.drop k)).1, (t.run (os.drop k)).2.1 + k, (t.run (os.drop k)).2.2)) ∧ Chg (SG w0.heap.size g b) W wr) (fun i _ => os.length - (intOf i).toNat)
  case atStart => exact ⟨0, Nat.zero_le _, rfl, _, hx, rfl, Chg.refl _ _⟩
  case round =>
    obtain ⟨k, hk, rfl, t, hx, HI, hC⟩ := hrel
    have hfin : ∀ w', Chg (SG w0.heap.size g b) W w' → Chg (GB g b) w w' := fun w' hc => (Chg.of_below (hb0.trans (hBW.mono hz0))).trans ((hc.mono (fun k _ e => e)).mono (fun k hk e => e)) |>.mono (T := SG w0.heap.size g b) (fun k hk e => by first | exact e | (rcases e with e | e; exact .inr (.inl e); exact .inr (.inr e))) |>.mono (fun k hk e => by rcases e with e | e; omega; exact e)
    by_cases hlt : k < os.length
    · have hlt' : (k : Int) < (os.length : Int) := by omega
      obtain ⟨b1, o1, r, he, -, q0, q1, q2, q3, q4, q5, hr⟩ := (hoW.chg hC (fun j _ e => e)).2 k hlt
      have hstep := fun he => Br.run_step hlt HI.out he
      have hstop := fun he => Br.run_stop hlt HI.out he
      obtain ⟨o, hoe⟩ : ∃ o, os[k] = o := ⟨_, rfl⟩
      rw [hoe] at q0 q1 q2 q3 q4 q5 hr hstep hstop
      have HST := Lib.hid hstep
      have HSP := Lib.hid hstop
      clear hstep hstop hoe
      have hba : Below wr.heap.size wr (wr.alloc (.cells #[.int .u8 o.kind, .int .i64 o.addr, .int .u8 o.byte, .bool o.ge, .slice r.pa o.pairs.length r.pc, .slice r.da o.data.length r.dc] 110)) := by with_reducible (repeat (first | exact Below.refl _ _ | assumption | (refine Below.setCell ?_ (by first | omega | (simp; done) | (simp; omega)) _) | (refine Below.alloc ?_ (by first | omega | (simp; done) | (simp; omega)) _) | (refine below_drewN ?_ _) | (refine Below.drew ?_) | (refine Below.trans ?_ (Below.mono hb (by first | omega | (simp; done) | (simp; omega)))) | (refine Below.trans ?_ (Below.mono hb1 (by first | omega | (simp; done) | (simp; omega)))) | (refine Below.trans ?_ (Below.mono hb2 (by first | omega | (simp; done) | (simp; omega)))) | (refine Below.trans ?_ (Below.mono hb3 (by first | omega | (simp; done) | (simp; omega)))) | (refine Below.trans ?_ (Below.mono hb4 (by first | omega | (simp; done) | (simp; omega)))) | (refine Below.trans ?_ (Below.mono hb5 (by first | omega | (simp; done) | (simp; omega)))) | (refine Below.trans ?_ (Below.mono hb6 (by first | omega | (simp; done) | (simp; omega)))) | (refine Below.trans ?_ (Below.mono hb7 (by first | omega | (simp; done) | (simp; omega)))) | (refine Below.trans ?_ (Below.mono hb8 (by first | omega | (simp; done) | (simp; omega)))) | (refine Below.trans ?_ (Below.mono hb9 (by first | omega | (simp; done) | (simp; omega)))) | (refine Below.trans ?_ (Below.mono hb10 (by first | omega | (simp; done) | (simp; omega)))) | (refine Below.trans ?_ (Below.mono hb11 (by first | omega | (simp; done) | (simp; omega)))) | (refine Below.trans ?_ (Below.mono hb12 (by first | omega | (simp; done) | (simp; omega))))))
      rw [he]
      clear he
      go_wp2_with fail
      refine (do_any (hx.below hba) o r (hr.below hba)).mono ?_
      obtain ⟨⟨q, n⟩, hq⟩ : ∃ y, t.dO o = y := ⟨_, rfl⟩
      rw [hq]
      rw [hq] at HST HSP
      clear hq
      rintro e w1 ⟨rfl, hx1, hk1⟩
      have hC1 : Chg (SG w0.heap.size g b) W w1 := hC.trans (chg_bel hba hk1)
      have c1 := hx1.c1
      clear hk1 hC q0 q1 q2 q3 q4 q5 hba hx
      by_cases hn : n = 0
      · subst hn
        have hrun := HST.out rfl
        have HRN := Lib.hid hrun
        clear hrun
        go_wp2
        go_roundw
        case rel => exact ⟨k + 1, by omega, by go_num, _, hx1, HRN, hC1⟩
        case measure => simp [intOf]; omega
      · have hrun := HSP.out hn
        have HRN := Lib.hid hrun
        clear hrun
        have hb : (n != 0) = true := bne_iff_ne.2 hn
        have hbb : (n == 0) = false := beq_eq_false_iff_ne.2 hn
        clear hn
        go_wp2
        go_ret3
        have e1 := HR.out.symm.trans HRN.out
        rw [e1]
        exact ⟨rfl, hx1.pl, hfin _ hC1⟩
    · have ek : k = os.length := by omega
      have hrun : (Br.new P a).run os = (t, os.length, 0) := by rw [HI.out, ek, List.drop_length]; simp [Br.run]
      have HRN := Lib.hid hrun
      have c1 := hx.c1
      clear hrun ek
      go_wp2
      go_ret3
      have e1 := HR.out.symm.trans HRN.out
      rw [e1]
      exact ⟨rfl, hx.pl, hfin _ hC⟩
end Go.Proofs.Ytbkddgeocmkegaa

namespace Go.Proofs.Ytbkddgeocmkegaa
open Go.RowKit Go.Shelf
set_option linter.unusedSimpArgs false
set_option linter.unusedVariables false
set_option maxHeartbeats 4000000
attribute [local go_sem ↓] run_start run_byte run_cols

theorem i64_and255 (n : Int) : bits .and .i64 n 255 = n % 256 := by
  have h255 : (BitVec.ofInt 64 255).toNat = 2 ^ 8 - 1 := by decide
  have key : (BitVec.ofInt 64 n &&& BitVec.ofInt 64 255).toNat = (n % ((2 ^ 64 : Nat) : Int)).toNat % 2 ^ 8 := by
    rw [BitVec.toNat_and, BitVec.toNat_ofInt, h255, Nat.and_two_pow_sub_one_eq_mod]
  show IntKind.i64.wrap ((BitVec.ofInt 64 n &&& BitVec.ofInt 64 255).toNat : Nat) = n % 256
  rw [key, IntKind.wrap_i64]
  omega

set_option maxRecDepth 100000 in
theorem made19_bad {w : World} (r c a : Int) (v : Value) (h : goodSize r c = false ∨ (goodSize r c = true ∧ 60 < r * c)) :
    Calls Try.prog 34 #[.agg #[.int .i64 r, .int .i64 c], v, .int .i64 a] w (MadeBad w) := by
  rcases h with h | ⟨h, h60⟩
  · go_enter Try.func34, Try.ntmps34
    go_wp2_with fail
    refine (rNew_bad r c h).mono ?_
    rintro e w1 ⟨rfl, hb1⟩
    have hB1 : Below w.heap.size w w1 := by with_reducible (repeat (first | exact Below.refl _ _ | assumption | (refine Below.setCell ?_ (by first | omega | (simp; done) | (simp; omega)) _) | (refine Below.alloc ?_ (by first | omega | (simp; done) | (simp; omega)) _) | (refine below_drewN ?_ _) | (refine Below.drew ?_) | (refine Below.trans ?_ (Below.mono hb (by first | omega | (simp; done) | (simp; omega)))) | (refine Below.trans ?_ (Below.mono hb1 (by first | omega | (simp; done) | (simp; omega)))) | (refine Below.trans ?_ (Below.mono hb2 (by first | omega | (simp; done) | (simp; omega)))) | (refine Below.trans ?_ (Below.mono hb3 (by first | omega | (simp; done) | (simp; omega)))) | (refine Below.trans ?_ (Below.mono hb4 (by first | omega | (simp; done) | (simp; omega)))) | (refine Below.trans ?_ (Below.mono hb5 (by first | omega | (simp; done) | (simp; omega)))) | (refine Below.trans ?_ (Below.mono hb6 (by first | omega | (simp; done) | (simp; omega)))) | (refine Below.trans ?_ (Below.mono hb7 (by first | omega | (simp; done) | (simp; omega)))) | (refine Below.trans ?_ (Below.mono hb8 (by first | omega | (simp; done) | (simp; omega)))) | (refine Below.trans ?_ (Below.mono hb9 (by first | omega | (simp; done) | (simp; omega)))) | (refine Below.trans ?_ (Below.mono hb10 (by first | omega | (simp; done) | (simp; omega)))) | (refine Below.trans ?_ (Below.mono hb11 (by first | omega | (simp; done) | (simp; omega)))) | (refine Below.trans ?_ (Below.mono hb12 (by first | omega | (simp; done) | (simp; omega))))))
    have hz1 := hb1.size
    simp only [World.size_alloc] at hz1
    have X7 := ((Box4.new (w.alloc (.cells #[.int .i64 r, .int .i64 c] 48)) (.int .i64 0) (.int .i64 0) (.slice none 0 0) (.int .i64 0) 77).below hb1)
    rw [World.size_alloc] at X7
    obtain ⟨c0, c1, c2, c3, f0, f1, f2, f3⟩ := X7
    clear hb1
    have hlt1 : w.heap.size + 1 < w1.heap.size := by omega
    go_wp2
    go_region
    go_wp2
    exact bodyPost_ret (v := .tuple #[.pointer none, .agg #[.int .i64 0, .int .i64 0, .slice none 0 0, .int .i64 0], .bool false]) (by simp [results, Try.results34, go_sem, c0, c1, c2, c3, hlt1]) rfl ⟨_, _, _, _, _, _, rfl, by with_reducible (repeat (first | exact Below.refl _ _ | assumption | (refine Below.setCell ?_ (by first | omega | (simp; done) | (simp; omega)) _) | (refine Below.alloc ?_ (by first | omega | (simp; done) | (simp; omega)) _) | (refine below_drewN ?_ _) | (refine Below.drew ?_) | (refine Below.trans ?_ (Below.mono hb (by first | omega | (simp; done) | (simp; omega)))) | (refine Below.trans ?_ (Below.mono hb1 (by first | omega | (simp; done) | (simp; omega)))) | (refine Below.trans ?_ (Below.mono hb2 (by first | omega | (simp; done) | (simp; omega)))) | (refine Below.trans ?_ (Below.mono hb3 (by first | omega | (simp; done) | (simp; omega)))) | (refine Below.trans ?_ (Below.mono hb4 (by first | omega | (simp; done) | (simp; omega)))) | (refine Below.trans ?_ (Below.mono hb5 (by first | omega | (simp; done) | (simp; omega)))) | (refine Below.trans ?_ (Below.mono hb6 (by first | omega | (simp; done) | (simp; omega)))) | (refine Below.trans ?_ (Below.mono hb7 (by first | omega | (simp; done) | (simp; omega)))) | (refine Below.trans ?_ (Below.mono hb8 (by first | omega | (simp; done) | (simp; omega)))) | (refine Below.trans ?_ (Below.mono hb9 (by first | omega | (simp; done) | (simp; omega)))) | (refine Below.trans ?_ (Below.mono hb10 (by first | omega | (simp; done) | (simp; omega)))) | (refine Below.trans ?_ (Below.mono hb11 (by first | omega | (simp; done) | (simp; omega)))) | (refine Below.trans ?_ (Below.mono hb12 (by first | omega | (simp; done) | (simp; omega))))))⟩
  · have hlen := new_len r c
    have h60' : (60 : Int) < ((Pl.new r c).cells.length : Int) := by rw [hlen]; omega
    go_enter Try.func34, Try.ntmps34
    go_wp2_with fail
    refine (rNew_in r c h).mono ?_
    rintro e w1 ⟨b, cap, rfl, hrc, hge, hb1⟩
    have hB1 : Below w.heap.size w w1 := by with_reducible (repeat (first | exact Below.refl _ _ | assumption | (refine Below.setCell ?_ (by first | omega | (simp; done) | (simp; omega)) _) | (refine Below.alloc ?_ (by first | omega | (simp; done) | (simp; omega)) _) | (refine below_drewN ?_ _) | (refine Below.drew ?_) | (refine Below.trans ?_ (Below.mono hb (by first | omega | (simp; done) | (simp; omega)))) | (refine Below.trans ?_ (Below.mono hb1 (by first | omega | (simp; done) | (simp; omega)))) | (refine Below.trans ?_ (Below.mono hb2 (by first | omega | (simp; done) | (simp; omega)))) | (refine Below.trans ?_ (Below.mono hb3 (by first | omega | (simp; done) | (simp; omega)))) | (refine Below.trans ?_ (Below.mono hb4 (by first | omega | (simp; done) | (simp; omega)))) | (refine Below.trans ?_ (Below.mono hb5 (by first | omega | (simp; done) | (simp; omega)))) | (refine Below.trans ?_ (Below.mono hb6 (by first | omega | (simp; done) | (simp; omega)))) | (refine Below.trans ?_ (Below.mono hb7 (by first | omega | (simp; done) | (simp; omega)))) | (refine Below.trans ?_ (Below.mono hb8 (by first | omega | (simp; done) | (simp; omega)))) | (refine Below.trans ?_ (Below.mono hb9 (by first | omega | (simp; done) | (simp; omega)))) | (refine Below.trans ?_ (Below.mono hb10 (by first | omega | (simp; done) | (simp; omega)))) | (refine Below.trans ?_ (Below.mono hb11 (by first | omega | (simp; done) | (simp; omega)))) | (refine Below.trans ?_ (Below.mono hb12 (by first | omega | (simp; done) | (simp; omega))))))
    have hz1 := hb1.size
    simp only [World.size_alloc] at hz1
    have X7 := ((Box4.new (w.alloc (.cells #[.int .i64 r, .int .i64 c] 48)) (.int .i64 0) (.int .i64 0) (.slice none 0 0) (.int .i64 0) 77).below hb1)
    rw [World.size_alloc] at X7
    obtain ⟨c0, c1, c2, c3, f0, f1, f2, f3⟩ := X7
    clear hb1
    have hlt1 : w.heap.size + 1 < w1.heap.size := by omega
    obtain ⟨N, hN⟩ : ∃ N, Pl.new r c = N := ⟨_, rfl⟩
    rw [hN] at h60' ⊢
    clear hN hlen hrc
    go_wp2
    go_region
    go_wp2
    exact bodyPost_ret (v := .tuple #[.pointer none, .agg #[.int .i64 N.rows, .int .i64 N.cols, .slice (some ⟨b, 0, none⟩) N.cells.length cap, .int .i64 N.cursor], .bool false]) (by simp [results, Try.results34, go_sem, c0, c1, c2, c3, hlt1]) rfl ⟨_, _, _, _, _, _, rfl, by with_reducible (repeat (first | exact Below.refl _ _ | assumption | (refine Below.setCell ?_ (by first | omega | (simp; done) | (simp; omega)) _) | (refine Below.alloc ?_ (by first | omega | (simp; done) | (simp; omega)) _) | (refine below_drewN ?_ _) | (refine Below.drew ?_) | (refine Below.trans ?_ (Below.mono hb (by first | omega | (simp; done) | (simp; omega)))) | (refine Below.trans ?_ (Below.mono hb1 (by first | omega | (simp; done) | (simp; omega)))) | (refine Below.trans ?_ (Below.mono hb2 (by first | omega | (simp; done) | (simp; omega)))) | (refine Below.trans ?_ (Below.mono hb3 (by first | omega | (simp; done) | (simp; omega)))) | (refine Below.trans ?_ (Below.mono hb4 (by first | omega | (simp; done) | (simp; omega)))) | (refine Below.trans ?_ (Below.mono hb5 (by first | omega | (simp; done) | (simp; omega)))) | (refine Below.trans ?_ (Below.mono hb6 (by first | omega | (simp; done) | (simp; omega)))) | (refine Below.trans ?_ (Below.mono hb7 (by first | omega | (simp; done) | (simp; omega)))) | (refine Below.trans ?_ (Below.mono hb8 (by first | omega | (simp; done) | (simp; omega)))) | (refine Below.trans ?_ (Below.mono hb9 (by first | omega | (simp; done) | (simp; omega)))) | (refine Below.trans ?_ (Below.mono hb10 (by first | omega | (simp; done) | (simp; omega)))) | (refine Below.trans ?_ (Below.mono hb11 (by first | omega | (simp; done) | (simp; omega)))) | (refine Below.trans ?_ (Below.mono hb12 (by first | omega | (simp; done) | (simp; omega))))))⟩

set_option maxRecDepth 100000 in
theorem made19_in {w : World} (r c a : Int) (ao : Option Addr) (cs : List Cell) (cap0 : Nat) (hA : ARow w ao cs) (h : goodSize r c = true) (h60 : r * c ≤ 60) :
    Calls Try.prog 34 #[.agg #[.int .i64 r, .int .i64 c], .slice ao cs.length cap0, .int .i64 a] w (MadePost (((Pl.new r c).fill cs).point (a % 256 % (r * c))) w) := by
  obtain ⟨h1, h2, h3, h4, h5⟩ := goodSize_out h
  have h0 : 0 < r * c := Int.mul_pos (by omega) (by omega)
  have hlen := new_len r c
  have hok := Pl.new_ok h1 h2 h3 h4 h5
  have hNl : ((Pl.new r c).cells.length : Int) = r * c := by omega
  go_enter Try.func34, Try.ntmps34
  go_wp2_with fail
  refine (rNew_in r c h).mono ?_
  rintro e w1 ⟨b2, cap2, rfl, hrc, hge, hb1⟩
  have hB1 : Below w.heap.size w w1 := by with_reducible (repeat (first | exact Below.refl _ _ | assumption | (refine Below.setCell ?_ (by first | omega | (simp; done) | (simp; omega)) _) | (refine Below.alloc ?_ (by first | omega | (simp; done) | (simp; omega)) _) | (refine below_drewN ?_ _) | (refine Below.drew ?_) | (refine Below.trans ?_ (Below.mono hb (by first | omega | (simp; done) | (simp; omega)))) | (refine Below.trans ?_ (Below.mono hb1 (by first | omega | (simp; done) | (simp; omega)))) | (refine Below.trans ?_ (Below.mono hb2 (by first | omega | (simp; done) | (simp; omega)))) | (refine Below.trans ?_ (Below.mono hb3 (by first | omega | (simp; done) | (simp; omega)))) | (refine Below.trans ?_ (Below.mono hb4 (by first | omega | (simp; done) | (simp; omega)))) | (refine Below.trans ?_ (Below.mono hb5 (by first | omega | (simp; done) | (simp; omega)))) | (refine Below.trans ?_ (Below.mono hb6 (by first | omega | (simp; done) | (simp; omega)))) | (refine Below.trans ?_ (Below.mono hb7 (by first | omega | (simp; done) | (simp; omega)))) | (refine Below.trans ?_ (Below.mono hb8 (by first | omega | (simp; done) | (simp; omega)))) | (refine Below.trans ?_ (Below.mono hb9 (by first | omega | (simp; done) | (simp; omega)))) | (refine Below.trans ?_ (Below.mono hb10 (by first | omega | (simp; done) | (simp; omega)))) | (refine Below.trans ?_ (Below.mono hb11 (by first | omega | (simp; done) | (simp; omega)))) | (refine Below.trans ?_ (Below.mono hb12 (by first | omega | (simp; done) | (simp; omega))))))
  have hz1 := hb1.size
  simp only [World.size_alloc] at hz1 hge
  have X7 := ((Box4.new (w.alloc (.cells #[.int .i64 r, .int .i64 c] 48)) (.int .i64 0) (.int .i64 0) (.slice none 0 0) (.int .i64 0) 77).below hb1)
  rw [World.size_alloc] at X7
  have s0 : w1.cell? ⟨w.heap.size, 0, none⟩ = some (.int .i64 r) := (hb1.cell (by simp; omega)).trans (by simp [go_sem])
  have s1 : w1.cell? ⟨w.heap.size, 1, none⟩ = some (.int .i64 c) := (hb1.cell (by simp; omega)).trans (by simp [go_sem])
  have hlt0 : w.heap.size < w1.heap.size := by omega
  have hlt1 : w.heap.size + 1 < w1.heap.size := by omega
  have HX7 := Lib.hid X7
  clear X7 hb1
  obtain ⟨N, hN⟩ : ∃ N, Pl.new r c = N := ⟨_, rfl⟩
  rw [hN] at hrc hok hNl ⊢
  have hNl' : (N.cells.length : Int) ≤ 60 := by omega
  have HN := Lib.hid hN
  have HNL := Lib.hid hNl
  clear hN hlen hNl
  go_wp2_with fail
  refine (New_in r c h1 h2 h3 h4 h5).mono ?_
  rintro e w3 ⟨g, b, cap, rfl, hP, hgg, hgb, hb3⟩
  rw [HN.out] at hP
  have hB3a : Below w1.heap.size w1 w3 := ((Below.refl _ _).alloc (Nat.le_refl _) _).trans (hb3.mono (by simp))
  have XX := ((Box4.new w1 (.int .i64 N.rows) (.int .i64 N.cols) (.slice (some ⟨b2, 0, none⟩) N.cells.length cap2) (.int .i64 N.cursor) 77).below hb3)
  have X7 := HX7.out.below hB3a
  have hrc3 := hrc.below hB3a
  have hB3 : Below w.heap.size w w3 := hB1.trans (hB3a.mono (by omega))
  have hA3 := hA.below hB3
  have hz3 := hB3a.size
  have hz3b := hb3.size
  have hb2l := hrc.bl
  simp only [World.size_alloc] at hgg hgb hz3b
  have HXX := Lib.hid (And.intro XX X7)
  have HAA := Lib.hid hA3
  have HA0 := Lib.hid hA
  have hcl : cs.length ≤ maxLen := hA.1
  have hcl2 : (cs.length : Int) ≤ 9223372036854775807 := by unfold maxLen at hcl; omega
  clear XX X7 hb3 hB3a hrc s0 s1 hA hA3
  go_wp2
  go_loopw [36] (fun i wr => ∃ k : Nat, k ≤ cs.length ∧ i = .int .i64 (k : Int) ∧ PL wr g b cap (N.fillK cs k) ∧ RC wr b2 (N.fillK cs k) ∧ Chg (fun j => j = b ∨ j = b2) w3 wr) (fun i _ => cs.length - (intOf i).toNat)
  case atStart => exact ⟨0, Nat.zero_le _, rfl, hP, hrc3, Chg.refl _ _⟩
  case round =>
    obtain ⟨k, hk, rfl, hPk, hRk, hC⟩ := hrel
    have hlenk := N.fillK_len cs k
    have hzr := hC.size
    obtain ⟨X9, X7⟩ := HXX.out
    have X9' := X9.chg hC (by show ¬ (w1.heap.size = b ∨ w1.heap.size = b2); omega)
    have hXc := X9'
    obtain ⟨c0, c1, c2, c3, f0, f1, f2, f3⟩ := hXc
    by_cases hlt : k < cs.length
    · have hlt' : (k : Int) < (cs.length : Int) := by omega
      have hAk := HAA.out.2 k hlt
      have hstep := N.fillK_step cs k hlt
      obtain ⟨x, hx⟩ : ∃ x, cs[k] = x := ⟨_, rfl⟩
      rw [hx] at hAk hstep
      clear hx
      obtain ⟨hcok, ab, off, rfl, hal, a0, a1, a2, a3, a4⟩ := hAk
      have hal0 : ab < w.heap.size := by
        obtain ⟨_, b', o', e, hl, _⟩ := HA0.out.2 k hlt
        cases e
        exact hl
      have hS : ¬ (ab = b ∨ ab = b2) := by omega
      replace a0 := cell_keepC a0 hC hS
      replace a1 := cell_keepC a1 hC hS
      replace a2 := cell_keepC a2 hC hS
      replace a3 := cell_keepC a3 hC hS
      replace a4 := cell_keepC a4 hC hS
      have HST := Lib.hid hstep
      clear hstep
      have hkl : (k : Int) < (cs.length : Int) := by omega
      have hxl : w1.heap.size < wr.heap.size := by omega
      by_cases hkn : k < N.cells.length
      · have hkn' : (k : Int) < (N.cells.length : Int) := by omega
        have hBa : Below wr.heap.size wr (wr.alloc (.cells #[.int .u8 x.byte, .bool x.ge, .bool x.start, .int .u8 x.light, .int .u8 x.color] 96)) := (Below.refl _ _).alloc (Nat.le_refl _) _
        go_wp2_with fail
        refine (Set_in (hPk.below hBa) (k : Int) x (by omega) (by rw [hlenk]; exact hkn') hcok).mono ?_
        rintro e w5 ⟨rfl, hP5, hk5⟩
        have hCa : Chg (fun j => j = b ∨ j = b2) w3 w5 := (hC.alloc _).trans (chgBA hk5)
        have hz5 := hk5.size
        simp only [World.size_alloc] at hz5
        have X95 := ((X9'.below hBa).chg hk5 (by show ¬ w1.heap.size = b; omega))
        obtain ⟨c0, c1, c2, c3, f0, f1, f2, f3⟩ := X95
        have hR5 := (hRk.below hBa).chg hk5 (by show ¬ b2 = b; omega)
        have hsb : ¬ wr.heap.size = b := by have := hPk.bl; omega
        have y0 : w5.cell? ⟨wr.heap.size, 0, none⟩ = some (.int .u8 x.byte) := cell_keepC (by simp [go_sem]) hk5 hsb
        have y1 : w5.cell? ⟨wr.heap.size, 1, none⟩ = some (.bool x.ge) := cell_keepC (by simp [go_sem]) hk5 hsb
        have y2 : w5.cell? ⟨wr.heap.size, 2, none⟩ = some (.bool x.start) := cell_keepC (by simp [go_sem]) hk5 hsb
        have y3 : w5.cell? ⟨wr.heap.size, 3, none⟩ = some (.int .u8 x.light) := cell_keepC (by simp [go_sem]) hk5 hsb
        have y4 : w5.cell? ⟨wr.heap.size, 4, none⟩ = some (.int .u8 x.color) := cell_keepC (by simp [go_sem]) hk5 hsb
        obtain ⟨k0, k1, k2, k3, k4⟩ := hR5.row5 k (by omega)
        have fz := hR5.fz
        clear hPk hRk hk5 hBa a0 a1 a2 a3 a4 hS
        go_wp2
        go_roundw
        case rel =>
          have hp := hR5.put (i := (k : Int)) (by omega) (by rw [hlenk]; exact hkn') hcok
          have hkp := putC_chg (S := (· = b2)) (Chg.refl _ w5) (.inl rfl) (k * 5) x
          rw [← HST.out] at hp hP5
          rw [Int.toNat_natCast] at hp
          exact ⟨k + 1, by omega, by go_num, hP5.chg hkp (by show ¬ g = b2; omega) (by show ¬ b = b2; omega), hp, hCa.trans (chgAB hkp)⟩
        case measure => simp [intOf]; omega
      · go_wp2
        go_roundw
        case rel =>
          have e := N.fillK_skip cs k (by omega)
          have hBa : Below wr.heap.size wr (wr.alloc (.cells #[.int .u8 x.byte, .bool x.ge, .bool x.start, .int .u8 x.light, .int .u8 x.color] 96)) := (Below.refl _ _).alloc (Nat.le_refl _) _
          rw [← e] at hPk hRk
          exact ⟨k + 1, by omega, by go_num, hPk.below hBa, hRk.below hBa, hC.alloc _⟩
        case measure => simp [intOf]; omega
    · have e : k = cs.length := by omega
      subst e
      have hmod : (a % 256).tmod (N.cells.length : Int) = a % 256 % (N.cells.length : Int) := Int.tmod_eq_emod_of_nonneg (by omega)
      have hband := i64_and255 a
      have ha0 : 0 ≤ a % 256 := by omega
      have hNp : (0 : Int) < (N.cells.length : Int) := by have := HNL.out; omega
      have hNe : N.cells ≠ [] := fun e => by rw [e] at hNp; exact absurd hNp (by simp)
      obtain ⟨q, hq⟩ : ∃ q, a % 256 % (N.cells.length : Int) = q := ⟨_, rfl⟩
      have hq0 : 0 ≤ q := by rw [← hq]; exact Int.emod_nonneg _ (by omega)
      have hq1 : q < (N.cells.length : Int) := by rw [← hq]; exact Int.emod_lt_of_pos _ hNp
      have HQ := Lib.hid hq
      rw [hq] at hmod
      clear hq
      have hX7 := X7.chg hC (by show ¬ (w.heap.size + 1 = b ∨ w.heap.size + 1 = b2); omega)
      have HX77 := Lib.hid hX7
      clear X9 X7 hX7
      have hkC : Chg (· = w1.heap.size) wr (wr.setCell ⟨w1.heap.size, 3, none⟩ (.int .i64 q)) := chg_set _ _ _ _
      have hPk' := hPk.chg hkC (by show ¬ g = w1.heap.size; omega) (by show ¬ b = w1.heap.size; omega)
      go_wp2_with fail
      refine (Point_in hPk' q hq0 (by rw [hlenk]; exact hq1)).mono ?_
      rintro e w5 ⟨rfl, hP5, hk5⟩
      have X95 := (X9'.set3 (.int .i64 q)).chg hk5 (by show ¬ w1.heap.size = g; omega)
      have X75 := (HX77.out.chg hkC (by show ¬ w.heap.size + 1 = w1.heap.size; omega)).chg hk5 (by show ¬ w.heap.size + 1 = g; omega)
      have hR5 := (hRk.chg hkC (by show ¬ b2 = w1.heap.size; omega)).chg hk5 (by show ¬ b2 = g; omega)
      have hB5 : Below w.heap.size w w5 := ((hB3.trans (hC.below (by omega) (fun j hj => by rcases hj with hj | hj <;> omega))).setCell (by simp; omega) _).trans (hk5.below (by simp; omega) (fun j hj => by omega))
      have hz5 := hB5.size
      have hl5 := X75.lt
      obtain ⟨c0, c1, c2, c3, f0, f1, f2, f3⟩ := X95
      obtain ⟨d0, d1, d2, d3, g0, g1, g2, g3⟩ := X75
      have hfin : Hid (((Pl.new r c).fill cs).point (a % 256 % (r * c)) = (N.fillK cs cs.length).point q) := Lib.hid (by rw [HN.out, ← HNL.out, HQ.out]; rfl)
      clear hPk hkC hPk' hk5 hmod hband X9'
      go_wp2
      go_region
      go_wp2
      have hk6 := ((((Chg.setCell (a := ⟨w.heap.size + 1, 0, none⟩) (Chg.refl (· = w.heap.size + 1) w5) (.inl rfl) (.int .i64 N.rows)).setCell (a := ⟨w.heap.size + 1, 1, none⟩) (.inl rfl) (.int .i64 N.cols)).setCell (a := ⟨w.heap.size + 1, 2, none⟩) (.inl rfl) (.slice (some ⟨b2, 0, none⟩) N.cells.length cap2)).setCell (a := ⟨w.heap.size + 1, 3, none⟩) (.inl rfl) (.int .i64 q)).drew
      refine bodyPost_ret (v := .tuple #[.pointer (some ⟨g, 0, none⟩), .agg #[.int .i64 N.rows, .int .i64 N.cols, .slice (some ⟨b2, 0, none⟩) N.cells.length cap2, .int .i64 q], .bool true]) (by simp [results, Try.results34, go_sem, d0, d1, d2, d3]) rfl ?_
      rw [hfin.out]
      refine ⟨g, b, cap, b2, cap2, by rw [← N.fillK_len cs cs.length]; rfl, hP5.chg hk6 (by show ¬ g = w.heap.size + 1; omega) (by show ¬ b = w.heap.size + 1; omega), (hR5.chg hk6 (by show ¬ b2 = w.heap.size + 1; omega)).of rfl hP5.ok, by omega, by omega, by omega, by omega, by omega, hB5.trans (hk6.below (by omega) (fun j hj => by omega))⟩
end Go.Proofs.Ytbkddgeocmkegaa
