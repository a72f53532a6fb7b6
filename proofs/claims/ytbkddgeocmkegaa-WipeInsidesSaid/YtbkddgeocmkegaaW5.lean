/- Lemmas on the way to this seat's statements; they bear no condition of their own. -/
import Derived.Test.YtbkddgeocmkegaaW4
import Derived.Test.YtbkddgeocmkegaaPw
namespace Go.Proofs.Ytbkddgeocmkegaa
open Go.RowKit Go.Shelf
set_option linter.unusedSimpArgs false
set_option linter.unusedVariables false
set_option maxHeartbeats 4000000
attribute [local go_sem ↓] run_start run_byte run_cols
attribute [local go_sem] Oper.semAt_some

/-- What may be typed is let go. -/
def Pl.opened (P : Pl) : Pl := P.clr (P.opn P.cells.length)
def Pl.wiped (P : Pl) : Pl := (P.opened.unm P.opened.flds).point P.home

theorem home_range' {P : Pl} (hok : P.ok) : 0 ≤ P.home ∧ P.home < (P.cells.length : Int) := by
  have hn := Pl.N_pos hok
  unfold Pl.home
  split
  · exact Pl.emod_range hok _
  · omega

set_option maxRecDepth 100000 in
theorem wOpen_any {w : World} {g b cap : Nat} {P : Pl} (h : PL w g b cap P) :
    Calls Try.prog 56 #[.pointer (some ⟨g, 0, none⟩)] w fun e w' => e = .returned (.int .i64 ((P.opn P.cells.length).length : Int)) ∧ PL w' g b cap P.wiped ∧ Chg (fun k => k = g ∨ k = b) w w' := by
  have hok := h.ok
  have hn := Pl.N_pos h.ok
  have hm := Pl.N_le h.ok
  have hgl := h.gl
  have hbl := h.bl
  have hne := h.ne
  refine (callsIn_wide (n := 0)).1 ?_
  refine callsIn_of_wp_marks Try.func56 rfl trivial ?_ rfl
  simp only [Try.ntmps56, List.size_toArray, List.length_cons, List.length_nil, Nat.reduceAdd, Nat.reduceSub, Array.replicate_succ, Array.replicate_zero, List.push_toArray, List.append_toArray, List.nil_append, List.cons_append]
  gi_wp2_with fail
  refine ⟨trivial, rfl, CallsIn.mono (callsIn_wide.2 (Len_any (h.below (by with_reducible (repeat (first | exact Below.refl _ _ | assumption | (refine Below.setCell ?_ (by first | omega | (simp; done) | (simp; omega)) _) | (refine Below.alloc ?_ (by first | omega | (simp; done) | (simp; omega)) _) | (refine below_drewN ?_ _) | (refine Below.drew ?_) | (refine Below.trans ?_ (Below.mono hb (by first | omega | (simp; done) | (simp; omega)))) | (refine Below.trans ?_ (Below.mono hb1 (by first | omega | (simp; done) | (simp; omega)))) | (refine Below.trans ?_ (Below.mono hb2 (by first | omega | (simp; done) | (simp; omega)))) | (refine Below.trans ?_ (Below.mono hb3 (by first | omega | (simp; done) | (simp; omega)))) | (refine Below.trans ?_ (Below.mono hb4 (by first | omega | (simp; done) | (simp; omega)))) | (refine Below.trans ?_ (Below.mono hb5 (by first | omega | (simp; done) | (simp; omega)))) | (refine Below.trans ?_ (Below.mono hb6 (by first | omega | (simp; done) | (simp; omega)))) | (refine Below.trans ?_ (Below.mono hb7 (by first | omega | (simp; done) | (simp; omega)))) | (refine Below.trans ?_ (Below.mono hb8 (by first | omega | (simp; done) | (simp; omega)))) | (refine Below.trans ?_ (Below.mono hb9 (by first | omega | (simp; done) | (simp; omega)))) | (refine Below.trans ?_ (Below.mono hb10 (by first | omega | (simp; done) | (simp; omega)))) | (refine Below.trans ?_ (Below.mono hb11 (by first | omega | (simp; done) | (simp; omega)))) | (refine Below.trans ?_ (Below.mono hb12 (by first | omega | (simp; done) | (simp; omega)))))))))) ?_⟩
  rintro e w1 ⟨rfl, hb1⟩
  have hz1 := hb1.size
  simp only [World.size_alloc] at hz1
  have x0 : w1.cell? ⟨w.heap.size, 0, none⟩ = some (.pointer (some ⟨g, 0, none⟩)) := (hb1.cell (by simp)).trans (by simp [go_sem])
  have hB1 : Below w.heap.size w w1 := by with_reducible (repeat (first | exact Below.refl _ _ | assumption | (refine Below.setCell ?_ (by first | omega | (simp; done) | (simp; omega)) _) | (refine Below.alloc ?_ (by first | omega | (simp; done) | (simp; omega)) _) | (refine below_drewN ?_ _) | (refine Below.drew ?_) | (refine Below.trans ?_ (Below.mono hb (by first | omega | (simp; done) | (simp; omega)))) | (refine Below.trans ?_ (Below.mono hb1 (by first | omega | (simp; done) | (simp; omega)))) | (refine Below.trans ?_ (Below.mono hb2 (by first | omega | (simp; done) | (simp; omega)))) | (refine Below.trans ?_ (Below.mono hb3 (by first | omega | (simp; done) | (simp; omega)))) | (refine Below.trans ?_ (Below.mono hb4 (by first | omega | (simp; done) | (simp; omega)))) | (refine Below.trans ?_ (Below.mono hb5 (by first | omega | (simp; done) | (simp; omega)))) | (refine Below.trans ?_ (Below.mono hb6 (by first | omega | (simp; done) | (simp; omega)))) | (refine Below.trans ?_ (Below.mono hb7 (by first | omega | (simp; done) | (simp; omega)))) | (refine Below.trans ?_ (Below.mono hb8 (by first | omega | (simp; done) | (simp; omega)))) | (refine Below.trans ?_ (Below.mono hb9 (by first | omega | (simp; done) | (simp; omega)))) | (refine Below.trans ?_ (Below.mono hb10 (by first | omega | (simp; done) | (simp; omega)))) | (refine Below.trans ?_ (Below.mono hb11 (by first | omega | (simp; done) | (simp; omega)))) | (refine Below.trans ?_ (Below.mono hb12 (by first | omega | (simp; done) | (simp; omega))))))
  clear hb1
  gi_wp2
  gi_loopw [3, 9] (fun v i wr => ∃ k : Nat, k ≤ P.cells.length ∧ i = .int .i64 (k : Int) ∧ v = .int .i64 ((P.opn k).length : Int) ∧ PL wr g b cap (P.clr (P.opn k)) ∧ wr.cell? ⟨w.heap.size, 0, none⟩ = some (.pointer (some ⟨g, 0, none⟩)) ∧ Chg (· = b) w wr ∧ w.heap.size + 1 ≤ wr.heap.size) (fun _ i _ => P.cells.length - (intOf i).toNat)
  case atStart => exact ⟨0, Nat.zero_le _, rfl, rfl, h.below hB1, x0, Chg.of_below hB1, by omega⟩
  case round =>
    obtain ⟨k, hk, rfl, rfl, hP, c0, hC, hsz⟩ := hrel
    have hol := opn_len P k
    have hsF := opn_sameF hok k
    by_cases hlt : k < P.cells.length
    · have hlt' : (k : Int) < (P.cells.length : Int) := by omega
      gi_wp2_with fail
      refine ⟨trivial, rfl, CallsIn.mono (callsIn_wide.2 (Open_any hP _)) ?_⟩
      rw [hsF.openAt hok]
      rintro e w5 ⟨rfl, hb5⟩
      have hP5 := hP.below hb5
      have c5 := cell_keep c0 hb5
      have hC5 : Chg (· = b) w w5 := hC.trans (Chg.of_below hb5)
      have hz5 := hb5.size
      have hlen5 := hsF.st.len
      clear hb5 hP c0 hC
      cases ho : P.openAt (k : Int)
      · have e := opn_clr_skip k ho
        have HE := Lib.hid e
        clear e
        gi_wp2
        go_roundw
        case rel => exact ⟨k + 1, by omega, by go_num, by rw [HE.out], by rw [HE.out]; exact hP5, c5, hC5, by omega⟩
        case measure => simp [intOf]; omega
      · obtain ⟨e1, e2⟩ := opn_clr_step k ho
        have HE := Lib.hid (And.intro e1 e2)
        clear e1 e2
        gi_wp2_with fail
        refine ⟨trivial, rfl, CallsIn.mono (callsIn_wide.2 (Set_in hP5 (k : Int) Cell.zero (by omega) (by rw [hlen5]; exact hlt') Cell.zero_ok)) ?_⟩
        rintro e w6 ⟨rfl, hP6, hk6⟩
        have c6 := cell_keepC c5 hk6 (by show ¬ w.heap.size = b; omega)
        have hz6 := hk6.size
        gi_wp2
        go_roundw
        case rel => exact ⟨k + 1, by omega, by go_num, by rw [HE.out.2]; rfl, by rw [HE.out.1]; exact hP6, c6, hC5.trans hk6, by omega⟩
        case measure => simp [intOf]; omega
    · have e : k = P.cells.length := by omega
      subst e
      have hP1 : PL wr g b cap P.opened := hP
      have hok1 := hP1.ok
      have hho : P.opened.home = P.home := hsF.home
      gi_wp2_with fail
      refine ⟨trivial, rfl, CallsIn.mono (callsIn_wide.2 (All_any _ _)) ?_⟩
      rintro e w5 ⟨rfl, rfl⟩
      gi_wp2
      have hzr := hC.size
      obtain ⟨P1, hP1e⟩ : ∃ P1, P.opened = P1 := ⟨_, rfl⟩
      have HP1E := Lib.hid hP1e
      rw [hP1e] at hP1 hok1 hho
      clear hP hP1e
      have hspec := fun k hk => unm_spec hok1 k hk
      have hlater := fun k hk j i hkj hi => unm_later hok1 k hk j i hkj hi
      have hful : P1.unm (P1.flds.take P1.flds.length) = P1.unm P1.flds := by rw [List.take_length]
      obtain ⟨W0, hW0⟩ : ∃ W0, wr.alloc (.cells #[.pointer (some ⟨g, 0, none⟩)] 52) = W0 := ⟨_, rfl⟩
      have hB0 : Below wr.heap.size wr W0 := by rw [← hW0]; with_reducible (repeat (first | exact Below.refl _ _ | assumption | (refine Below.setCell ?_ (by first | omega | (simp; done) | (simp; omega)) _) | (refine Below.alloc ?_ (by first | omega | (simp; done) | (simp; omega)) _) | (refine below_drewN ?_ _) | (refine Below.drew ?_) | (refine Below.trans ?_ (Below.mono hb (by first | omega | (simp; done) | (simp; omega)))) | (refine Below.trans ?_ (Below.mono hb1 (by first | omega | (simp; done) | (simp; omega)))) | (refine Below.trans ?_ (Below.mono hb2 (by first | omega | (simp; done) | (simp; omega)))) | (refine Below.trans ?_ (Below.mono hb3 (by first | omega | (simp; done) | (simp; omega)))) | (refine Below.trans ?_ (Below.mono hb4 (by first | omega | (simp; done) | (simp; omega)))) | (refine Below.trans ?_ (Below.mono hb5 (by first | omega | (simp; done) | (simp; omega)))) | (refine Below.trans ?_ (Below.mono hb6 (by first | omega | (simp; done) | (simp; omega)))) | (refine Below.trans ?_ (Below.mono hb7 (by first | omega | (simp; done) | (simp; omega)))) | (refine Below.trans ?_ (Below.mono hb8 (by first | omega | (simp; done) | (simp; omega)))) | (refine Below.trans ?_ (Below.mono hb9 (by first | omega | (simp; done) | (simp; omega)))) | (refine Below.trans ?_ (Below.mono hb10 (by first | omega | (simp; done) | (simp; omega)))) | (refine Below.trans ?_ (Below.mono hb11 (by first | omega | (simp; done) | (simp; omega)))) | (refine Below.trans ?_ (Below.mono hb12 (by first | omega | (simp; done) | (simp; omega))))))
      have hz0 : W0.heap.size = wr.heap.size + 1 := by rw [← hW0]; simp
      have hcsb : ∀ p ∈ [((⟨w.heap.size, 0, none⟩ : Addr), Value.pointer (some ⟨g, 0, none⟩))], w.heap.size ≤ p.1.block ∧ p.1.block ≠ wr.heap.size := by
        intro p hp
        rw [List.mem_singleton] at hp
        subst hp
        exact ⟨Nat.le_refl _, by show ¬ w.heap.size = wr.heap.size; omega⟩
      have hI0 : RI w g b cap (wr.heap.size + 1) wr.heap.size [(⟨w.heap.size, 0, none⟩, .pointer (some ⟨g, 0, none⟩))] (P1.unm (P1.flds.take 0)) (.pointer (some ⟨g, 0, none⟩)) W0 := by
        refine ⟨hP1.below hB0, ?_, ?_, ?_, hC.trans (Chg.of_below hB0), by omega⟩
        · intro p hp
          rw [List.mem_singleton] at hp
          subst hp
          exact cell_keep c0 hB0
        all_goals (rw [← hW0]; simp [go_sem])
      rw [hW0]
      refine wpIn_rangeL (gf := 167) (lb := #[.pointer (some ⟨wr.heap.size, 0, none⟩)]) rfl (enters_of Try.func167 (by kernel_rfl) rfl)
        (All_seq hok1 wr.heap.size g b cap) (fun v hv => by obtain ⟨f, _, rfl⟩ := List.mem_map.1 hv; rfl)
        (fun k W => k ≤ P1.flds.length ∧ RI w g b cap (wr.heap.size + 1) wr.heap.size [(⟨w.heap.size, 0, none⟩, .pointer (some ⟨g, 0, none⟩))] (P1.unm (P1.flds.take k)) (.pointer (some ⟨g, 0, none⟩)) W)
        (fun c k W => False)
        (fun k act W => ∃ (Bf : Nat) (hk : k < P1.flds.length), FBox Bf P1.flds[k] W ∧ wr.heap.size + 1 ≤ Bf ∧ RI w g b cap (wr.heap.size + 1) wr.heap.size [(⟨w.heap.size, 0, none⟩, .pointer (some ⟨g, 0, none⟩))] (P1.unm (P1.flds.take k)) (.pointer (some ⟨g, 0, none⟩)) W ∧
          act = ⟨#[Value.pointer (some { block := g, off := 0 }), Value.pointer (some { block := w.heap.size, off := 0 }),
              Value.int IntKind.i64 0, Value.int IntKind.i64 ↑(P.opn P.cells.length).length, u4, .pointer (some ⟨Bf, 0, none⟩), undef,
              Value.pointer (some { block := g, off := 0 }), Value.int IntKind.i64 ↑P.cells.length,
              Value.int IntKind.i64 ↑P.cells.length, Value.bool false, u11, u12, u13, u14, u15, u16, u17, u18, u19, u20,
              u21, Value.pointer (some { block := g, off := 0 }),
              Value.func (Fn.func 167) #[] #[Value.pointer (some { block := wr.heap.size, off := 0 })], .agg #[.int .i64 ((P1.flds[k])).start, .int .i64 ((P1.flds[k])).len, .int .u8 ((P1.flds[k])).attr], undef, undef,
              undef, undef, undef, undef, undef, undef, undef, undef, undef, undef, undef, undef, undef, undef, undef,
              undef, undef, undef, undef], []⟩)
        (fun k W hi => ⟨hi.2.cn, _, hi.2.pl, (hspec k hi.1).1, fun j i hkj hi' => hlater k hi.1 j i hkj hi'⟩)
        (fun k W W' hi ha => ⟨hi.1, hi.2.aux (by omega) (hz0 ▸ ha)⟩)
        (fun c k W W' hi ha => hi)
        (fun k a W W' ⟨Bf, hk, hf, hl, hi, e⟩ ha => ⟨Bf, hk, hf.aux ha, hl, hi.aux (by omega) (hz0 ▸ ha), e⟩)
        ⟨Nat.zero_le _, hI0⟩ ?assign ?body ?done ?stop
      case assign =>
        rintro l k W hk ⟨hkl, hi⟩
        have hk' : k < P1.flds.length := by rw [fvals_len] at hk; exact hk
        rw [fvals_get hk]
        have hsz := hi.sz
        gi_wp2
        refine ⟨⟨W.heap.size, ⟨?_, ?_, ?_⟩, by omega, hi.aux (by omega) (Aux.of_below (by with_reducible (repeat (first | exact Below.refl _ _ | assumption | (refine Below.setCell ?_ (by first | omega | (simp; done) | (simp; omega)) _) | (refine Below.alloc ?_ (by first | omega | (simp; done) | (simp; omega)) _) | (refine below_drewN ?_ _) | (refine Below.drew ?_) | (refine Below.trans ?_ (Below.mono hb (by first | omega | (simp; done) | (simp; omega)))) | (refine Below.trans ?_ (Below.mono hb1 (by first | omega | (simp; done) | (simp; omega)))) | (refine Below.trans ?_ (Below.mono hb2 (by first | omega | (simp; done) | (simp; omega)))) | (refine Below.trans ?_ (Below.mono hb3 (by first | omega | (simp; done) | (simp; omega)))) | (refine Below.trans ?_ (Below.mono hb4 (by first | omega | (simp; done) | (simp; omega)))) | (refine Below.trans ?_ (Below.mono hb5 (by first | omega | (simp; done) | (simp; omega)))) | (refine Below.trans ?_ (Below.mono hb6 (by first | omega | (simp; done) | (simp; omega)))) | (refine Below.trans ?_ (Below.mono hb7 (by first | omega | (simp; done) | (simp; omega)))) | (refine Below.trans ?_ (Below.mono hb8 (by first | omega | (simp; done) | (simp; omega)))) | (refine Below.trans ?_ (Below.mono hb9 (by first | omega | (simp; done) | (simp; omega)))) | (refine Below.trans ?_ (Below.mono hb10 (by first | omega | (simp; done) | (simp; omega)))) | (refine Below.trans ?_ (Below.mono hb11 (by first | omega | (simp; done) | (simp; omega)))) | (refine Below.trans ?_ (Below.mono hb12 (by first | omega | (simp; done) | (simp; omega)))))))), rfl⟩, keepsFrom_of_below (by with_reducible (repeat (first | exact Below.refl _ _ | assumption | (refine Below.setCell ?_ (by first | omega | (simp; done) | (simp; omega)) _) | (refine Below.alloc ?_ (by first | omega | (simp; done) | (simp; omega)) _) | (refine below_drewN ?_ _) | (refine Below.drew ?_) | (refine Below.trans ?_ (Below.mono hb (by first | omega | (simp; done) | (simp; omega)))) | (refine Below.trans ?_ (Below.mono hb1 (by first | omega | (simp; done) | (simp; omega)))) | (refine Below.trans ?_ (Below.mono hb2 (by first | omega | (simp; done) | (simp; omega)))) | (refine Below.trans ?_ (Below.mono hb3 (by first | omega | (simp; done) | (simp; omega)))) | (refine Below.trans ?_ (Below.mono hb4 (by first | omega | (simp; done) | (simp; omega)))) | (refine Below.trans ?_ (Below.mono hb5 (by first | omega | (simp; done) | (simp; omega)))) | (refine Below.trans ?_ (Below.mono hb6 (by first | omega | (simp; done) | (simp; omega)))) | (refine Below.trans ?_ (Below.mono hb7 (by first | omega | (simp; done) | (simp; omega)))) | (refine Below.trans ?_ (Below.mono hb8 (by first | omega | (simp; done) | (simp; omega)))) | (refine Below.trans ?_ (Below.mono hb9 (by first | omega | (simp; done) | (simp; omega)))) | (refine Below.trans ?_ (Below.mono hb10 (by first | omega | (simp; done) | (simp; omega)))) | (refine Below.trans ?_ (Below.mono hb11 (by first | omega | (simp; done) | (simp; omega)))) | (refine Below.trans ?_ (Below.mono hb12 (by first | omega | (simp; done) | (simp; omega)))))))⟩
        all_goals simp [go_sem]
      case body =>
        rintro l k a1 W hk ⟨Bf, hk', ⟨d0, d1, d2⟩, hBf, hi, rfl⟩
        have hr := fld_ok hok1 k hk'
        have hstep := unm_take P1 P1.flds k hk'
        have hlen := (hspec k (by omega)).1.len
        have hQok := (hspec k (by omega)).2.1
        obtain ⟨f, hfe⟩ : ∃ f, P1.flds[k] = f := ⟨_, rfl⟩
        rw [hfe] at hr d0 d1 d2 ⊢
        rw [hfe] at hstep
        obtain ⟨Q, hQ⟩ : ∃ Q, P1.unm (P1.flds.take k) = Q := ⟨_, rfl⟩
        rw [hQ] at hi hlen hQok hstep
        have HST := Lib.hid hstep
        clear hstep hfe hQ
        obtain ⟨s0, s1, l0, l1, ha0, ha1⟩ := hr
        have hsz := hi.sz
        have hlB : Bf < W.heap.size := World.block_lt_of_cell? W _ d0
        gi_wp2_with fail
        refine ⟨trivial, rfl, CallsIn.mono (CallsIn.inRound _ (callsIn_wide.2 (Protected_any _ _ ⟨ha0, ha1⟩))) ?_⟩
        rintro e w6 ⟨rfl, hb6⟩
        have hi6 := hi.aux (by omega) (Aux.of_below hb6)
        have hz6 := hb6.size
        have e0 := cell_keep d0 hb6
        cases hp : prot f.attr
        · have hE : Hid (P1.unm (P1.flds.take (k + 1)) = Q.set f.start { Q.at f.start with byte := modi (Q.at f.start).byte false }) := Lib.hid (by rw [HST.out, hp]; rfl)
          have hby := (Pl.at_ok hQok f.start).1
          have hcok := mark_cell hQok f.start false
          obtain ⟨x, hx⟩ : ∃ x, Q.at f.start = x := ⟨_, rfl⟩
          have HX := Lib.hid hx
          rw [hx] at hby hcok hE
          clear hx
          have c6 := hi6.cs (⟨w.heap.size, 0, none⟩, _) (List.mem_singleton.2 rfl)
          gi_wp2_with fail
          refine ⟨trivial, rfl, CallsIn.mono (CallsIn.inRound _ (callsIn_wide.2 (At_any hi6.pl f.start))) ?_⟩
          rw [HX.out]
          rintro e w7 ⟨rfl, hb7⟩
          have hi7 := hi6.aux (by omega) (Aux.of_below hb7)
          have hz7 := hb7.size
          have e7 := cell_keep e0 hb7
          have c7 := cell_keep c6 hb7
          have hlB7 : Bf < w7.heap.size := by omega
          have hlC7 : w.heap.size < w7.heap.size := by omega
          gi_wp2_with fail
          refine ⟨trivial, rfl, CallsIn.mono (CallsIn.inRound _ (callsIn_wide.2 (Modify_any x.byte false _ hby))) ?_⟩
          rintro e w8 ⟨rfl, hb8⟩
          have hb8' : Below w7.heap.size w7 w8 := ((Below.refl _ _).alloc (Nat.le_refl _) _).trans (hb8.mono (by simp))
          have hi8 := hi7.aux (by omega) (Aux.of_below hb8')
          have hz8 := hb8.size
          simp only [World.size_alloc] at hz8
          have e8 := cell_keep e7 hb8'
          have c8 := cell_keep c7 hb8'
          have y0 : w8.cell? ⟨w7.heap.size, 0, none⟩ = some (.int .u8 x.byte) := (hb8.cell (by simp)).trans (by simp [go_sem])
          have y1 : w8.cell? ⟨w7.heap.size, 1, none⟩ = some (.bool x.ge) := (hb8.cell (by simp)).trans (by simp [go_sem])
          have y2 : w8.cell? ⟨w7.heap.size, 2, none⟩ = some (.bool x.start) := (hb8.cell (by simp)).trans (by simp [go_sem])
          have y3 : w8.cell? ⟨w7.heap.size, 3, none⟩ = some (.int .u8 x.light) := (hb8.cell (by simp)).trans (by simp [go_sem])
          have y4 : w8.cell? ⟨w7.heap.size, 4, none⟩ = some (.int .u8 x.color) := (hb8.cell (by simp)).trans (by simp [go_sem])
          have yf : w8.frozen? ⟨w7.heap.size, 0, none⟩ = false := (hb8.frozen (by simp)).trans (by simp [go_sem])
          have hBs : Below w7.heap.size w7 (w8.setCell ⟨w7.heap.size, 0, none⟩ (.int .u8 (modi x.byte false))) := hb8'.setCell (Nat.le_refl _) _
          have hi9 := hi7.aux (by omega) (Aux.of_below hBs)
          have hkk : KeepsFrom W0.heap.size W (w8.setCell ⟨w7.heap.size, 0, none⟩ (.int .u8 (modi x.byte false))) := keepsFrom_of_below ((hb6.trans (hb7.mono hz6)).trans (hBs.mono (by omega)))
          clear hb6 hb7 hb8 hb8' hBs hi8
          gi_wp2_with fail
          refine ⟨trivial, rfl, CallsIn.mono (CallsIn.inRound _ (callsIn_wide.2 (Set_in hi9.pl f.start { x with byte := modi x.byte false } s0 (by rw [hlen]; exact s1) hcok))) ?_⟩
          rintro e w10 ⟨rfl, hP10, hk10⟩
          have hi10 := hi9.turn hbl (by omega) hcsb hP10 hk10
          gi_wp2
          refine ⟨hkk.trans (keepsFrom_of_chg hk10 (fun k e => .inl (by subst e; omega))), by omega, ?_⟩
          rw [hE.out]
          exact hi10
        · have hE : Hid (P1.unm (P1.flds.take (k + 1)) = Q) := Lib.hid (by rw [HST.out, hp]; rfl)
          gi_wp2
          refine ⟨keepsFrom_of_below hb6, by omega, ?_⟩
          rw [hE.out]
          exact hi6
      case done =>
        rintro D W hD ⟨hkl, hi⟩ hK
        rw [fvals_len, hful] at hi
        have c0 := hi.cs (⟨w.heap.size, 0, none⟩, _) (List.mem_singleton.2 rfl)
        have hsz := hi.sz
        have hDl := (Array.getElem?_eq_some_iff.1 hK).1
        have hrg := home_range' hi.pl.ok
        have hho2 := unm_home hok1
        rw [hho2, hho] at hrg
        have hfin : Hid (P.wiped = (P1.unm P1.flds).point P.home) := Lib.hid (by unfold Pl.wiped; rw [HP1E.out])
        have hh : (P1.unm P1.flds).home = P.home := hho2.trans hho
        gi_wp2_with fail
        refine wpIn_mono (Q := noP _) ?_ (fun e a w h => noP_imp h)
        gi_region_with (first
          | (refine ⟨trivial, rfl, ?_⟩; gi_at_call 107; refine CallsIn.mono (callsIn_wide.2 (Home_any (hi.pl.below (by with_reducible (repeat (first | exact Below.refl _ _ | assumption | (refine Below.setCell ?_ (by first | omega | (simp; done) | (simp; omega)) _) | (refine Below.alloc ?_ (by first | omega | (simp; done) | (simp; omega)) _) | (refine below_drewN ?_ _) | (refine Below.drew ?_) | (refine Below.trans ?_ (Below.mono hb (by first | omega | (simp; done) | (simp; omega)))) | (refine Below.trans ?_ (Below.mono hb1 (by first | omega | (simp; done) | (simp; omega)))) | (refine Below.trans ?_ (Below.mono hb2 (by first | omega | (simp; done) | (simp; omega)))) | (refine Below.trans ?_ (Below.mono hb3 (by first | omega | (simp; done) | (simp; omega)))) | (refine Below.trans ?_ (Below.mono hb4 (by first | omega | (simp; done) | (simp; omega)))) | (refine Below.trans ?_ (Below.mono hb5 (by first | omega | (simp; done) | (simp; omega)))) | (refine Below.trans ?_ (Below.mono hb6 (by first | omega | (simp; done) | (simp; omega)))) | (refine Below.trans ?_ (Below.mono hb7 (by first | omega | (simp; done) | (simp; omega)))) | (refine Below.trans ?_ (Below.mono hb8 (by first | omega | (simp; done) | (simp; omega)))) | (refine Below.trans ?_ (Below.mono hb9 (by first | omega | (simp; done) | (simp; omega)))) | (refine Below.trans ?_ (Below.mono hb10 (by first | omega | (simp; done) | (simp; omega)))) | (refine Below.trans ?_ (Below.mono hb11 (by first | omega | (simp; done) | (simp; omega)))) | (refine Below.trans ?_ (Below.mono hb12 (by first | omega | (simp; done) | (simp; omega)))))))))) ?_; rw [hh]; rintro e w7 ⟨rfl, hb7⟩; have c7 : w7.cell? ⟨w.heap.size, 0, none⟩ = some (.pointer (some ⟨g, 0, none⟩)) := (by first | exact cell_keep c0 hb7 | exact cell_keep (show (World.drew W).cell? ⟨w.heap.size, 0, none⟩ = some (.pointer (some ⟨g, 0, none⟩)) from c0) hb7))
          | (refine ⟨trivial, rfl, ?_⟩; gi_at_call 49; refine CallsIn.mono (callsIn_wide.2 (Point_in (hi.pl.below (by with_reducible (repeat (first | exact Below.refl _ _ | assumption | (refine Below.setCell ?_ (by first | omega | (simp; done) | (simp; omega)) _) | (refine Below.alloc ?_ (by first | omega | (simp; done) | (simp; omega)) _) | (refine below_drewN ?_ _) | (refine Below.drew ?_) | (refine Below.trans ?_ (Below.mono hb (by first | omega | (simp; done) | (simp; omega)))) | (refine Below.trans ?_ (Below.mono hb1 (by first | omega | (simp; done) | (simp; omega)))) | (refine Below.trans ?_ (Below.mono hb2 (by first | omega | (simp; done) | (simp; omega)))) | (refine Below.trans ?_ (Below.mono hb3 (by first | omega | (simp; done) | (simp; omega)))) | (refine Below.trans ?_ (Below.mono hb4 (by first | omega | (simp; done) | (simp; omega)))) | (refine Below.trans ?_ (Below.mono hb5 (by first | omega | (simp; done) | (simp; omega)))) | (refine Below.trans ?_ (Below.mono hb6 (by first | omega | (simp; done) | (simp; omega)))) | (refine Below.trans ?_ (Below.mono hb7 (by first | omega | (simp; done) | (simp; omega)))) | (refine Below.trans ?_ (Below.mono hb8 (by first | omega | (simp; done) | (simp; omega)))) | (refine Below.trans ?_ (Below.mono hb9 (by first | omega | (simp; done) | (simp; omega)))) | (refine Below.trans ?_ (Below.mono hb10 (by first | omega | (simp; done) | (simp; omega)))) | (refine Below.trans ?_ (Below.mono hb11 (by first | omega | (simp; done) | (simp; omega)))) | (refine Below.trans ?_ (Below.mono hb12 (by first | omega | (simp; done) | (simp; omega)))))))) P.home hrg.1 hrg.2)) ?_; rintro e w8 ⟨rfl, hP8, hk8⟩))
        all_goals
          have hB7 : Below W.heap.size W w7 := by with_reducible (repeat (first | exact Below.refl _ _ | assumption | (refine Below.setCell ?_ (by first | omega | (simp; done) | (simp; omega)) _) | (refine Below.alloc ?_ (by first | omega | (simp; done) | (simp; omega)) _) | (refine below_drewN ?_ _) | (refine Below.drew ?_) | (refine Below.trans ?_ (Below.mono hb (by first | omega | (simp; done) | (simp; omega)))) | (refine Below.trans ?_ (Below.mono hb1 (by first | omega | (simp; done) | (simp; omega)))) | (refine Below.trans ?_ (Below.mono hb2 (by first | omega | (simp; done) | (simp; omega)))) | (refine Below.trans ?_ (Below.mono hb3 (by first | omega | (simp; done) | (simp; omega)))) | (refine Below.trans ?_ (Below.mono hb4 (by first | omega | (simp; done) | (simp; omega)))) | (refine Below.trans ?_ (Below.mono hb5 (by first | omega | (simp; done) | (simp; omega)))) | (refine Below.trans ?_ (Below.mono hb6 (by first | omega | (simp; done) | (simp; omega)))) | (refine Below.trans ?_ (Below.mono hb7 (by first | omega | (simp; done) | (simp; omega)))) | (refine Below.trans ?_ (Below.mono hb8 (by first | omega | (simp; done) | (simp; omega)))) | (refine Below.trans ?_ (Below.mono hb9 (by first | omega | (simp; done) | (simp; omega)))) | (refine Below.trans ?_ (Below.mono hb10 (by first | omega | (simp; done) | (simp; omega)))) | (refine Below.trans ?_ (Below.mono hb11 (by first | omega | (simp; done) | (simp; omega)))) | (refine Below.trans ?_ (Below.mono hb12 (by first | omega | (simp; done) | (simp; omega))))))
          have hk8' : Chg (· = g) W w8 := chg_bel hB7 hk8
          have hK8 : w8.heap[D]? = some (.deferred (some [])) := (hk8'.block D hDl (by show ¬ D = g; omega)).trans hK
          have hc8 : Chg (fun k => k = g ∨ k = b) w w8 := (hi.chg.mono (fun _ _ e => .inr e)).trans (hk8'.mono (fun _ _ e => .inl e))
          refine noP_normal ?_
          gi_wp2
          refine ⟨by simp, .inl ⟨_, _, rfl, run_takeDeferred hK8, ?_⟩⟩
          have ha := Aux.put (W := w8) (B := w.heap.size) (.deferred none) (by omega) hK8 rfl
          refine ⟨.int .i64 ((P.opn P.cells.length).length : Int), ?_, rfl, ?_, ha.chg hc8 (by omega)⟩
          · simp [results, Try.f56, go_sem]
          · rw [hfin.out]
            exact hP8.aux ha
      case stop =>
        rintro D c k W hD hk h
        exact h.elim
end Go.Proofs.Ytbkddgeocmkegaa
