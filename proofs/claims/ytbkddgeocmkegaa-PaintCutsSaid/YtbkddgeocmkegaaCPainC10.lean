/- Lemmas on the way to this seat's statements; they bear no condition of their own. -/
import Derived.Test.YtbkddgeocmkegaaCPainC9
/-! PaintCuts: the walk. -/
namespace Go.Proofs.Ytbkddgeocmkegaa
open Go.RowKit Go.Shelf
set_option linter.unusedSimpArgs false
set_option linter.unusedVariables false
set_option maxHeartbeats 8000000
attribute [local go_sem ↓] run_start run_byte run_cols run_neq_cell run_eql_cell run_eql_size

theorem few_len {os : List Ord} (h : fewB os = true) : (os.length : Int) ≤ 20 := by
  unfold fewB at h
  rw [Bool.and_eq_true, decide_eq_true_eq] at h
  exact h.2
theorem orow_take {w : World} {T : Nat → Prop} {ao : Option Addr} {l : List Ord} (h : ORow w T ao l) (c : Nat) : ORow w T ao (l.take c) :=
  ⟨by rw [List.length_take]; have := h.1; omega, fun k hk => by
    have hk' : k < l.length := by rw [List.length_take] at hk; omega
    rw [List.getElem_take]
    exact h.2 k hk'⟩
theorem orow_drop {w : World} {T : Nat → Prop} {ao : Option Addr} {l : List Ord} (h : ORow w T ao l) (c : Nat) (cap : Nat) (hc : c ≤ l.length) (hl : l.length ≤ cap) : ORow w T (if cap = c then ao else ao.map (·.add (c * 6))) (l.drop c) :=
  ⟨by rw [List.length_drop]; have := h.1; omega, fun k hk => by
    rw [List.length_drop] at hk
    rw [if_neg (by omega), List.getElem_drop]
    obtain ⟨b, o, r, rfl, hT, h0, h1, h2, h3, h4, h5, h6⟩ := h.2 (c + k) (by omega)
    have e : o + c * 6 + k * 6 = o + (c + k) * 6 := by omega
    refine ⟨b, o + c * 6, r, by simp [Addr.add], hT, ?_, ?_, ?_, ?_, ?_, ?_, h6⟩ <;> (rw [e]; assumption)⟩

theorem orow_drop1 {w : World} {T : Nat → Prop} {ao : Option Addr} {l : List Ord} (h : ORow w T ao l) (c : Nat) (cap : Nat) (hc : c ≤ l.length) (hl : cap = c) (hcl : l.length ≤ cap) : ORow w T ao (l.drop c) := by
  have := orow_drop h c cap hc hcl
  rw [if_pos hl] at this
  exact this
theorem orow_drop2 {w : World} {T : Nat → Prop} {ao : Option Addr} {l : List Ord} (h : ORow w T ao l) (c : Nat) (cap : Nat) (hc : c ≤ l.length) (hl : ¬ cap = c) (hcl : l.length ≤ cap) : ORow w T (ao.map (·.add (c * 6))) (l.drop c) := by
  have := orow_drop h c cap hc hcl
  rw [if_neg hl] at this
  exact this
theorem Paint_n {w : World} {g b cap : Nat} {P : Pl} (h : PL w g b cap P) (os : List Ord) (n : Nat) (hn : Hid (os.length = n)) (ao : Option Addr) (cp : Nat) (ho : ORow w (GB g b) ao os) (a : Int) (a0 : 0 ≤ a) (a1 : a < (P.cells.length : Int)) (R : Br × Nat × Int) (HR : Hid ((Br.new P a).run os = R)) :
    Calls Try.prog 62 #[.pointer (some ⟨g, 0, none⟩), .slice ao n cp, .int .i64 a] w fun e w' => e = .returned (.tuple #[.int .i64 R.1.pos, .int .i64 (R.2.1 : Int), .int .i64 R.2.2]) ∧ PL w' g b cap R.1.P ∧ Chg (GB g b) w w' := by
  have := hn.out
  subst this
  exact Paint_in h os ao cp ho a a0 a1 R HR

set_option maxRecDepth 100000 in
theorem paintCuts_walk (w : World) (r c fr c2 : Int) (ao : Option Addr) (cs : List Cell) (cap0 : Nat) (hA : ARow w ao cs) (oo : Option Addr) (os : List Ord) (capo : Nat) (hO : ORow w (fun k => w.heap.size ≤ k) oo os) (hoc : os.length ≤ capo) (hom : capo ≤ maxLen) :
    Calls Try.prog 12 #[.agg #[.int .i64 r, .int .i64 c], .slice ao cs.length cap0, .slice oo os.length capo, .int .i64 fr, .int .i64 c2] w fun e w' => e = .returned (.bool true) ∧ Below w.heap.size w w' := by
  have hol : (os.length : Int) ≤ 9223372036854775807 := by have := hO.1; unfold maxLen at this; omega
  by_cases h : goodSize r c = true ∧ r * c ≤ 60
  · obtain ⟨h1, h2⟩ := h
    obtain ⟨P, hP⟩ : ∃ P, (Pl.new r c).fill cs = P := ⟨_, rfl⟩
    have HPN := Lib.hid hP
    clear hP
    go_enter Try.func12, Try.ntmps12
    go_wp2_with fail
    refine (alive16_any _).mono ?_
    rintro e w1 ⟨rfl, hb1⟩
    have hB : Below w.heap.size w w1 := by with_reducible (repeat (first | exact Below.refl _ _ | assumption | (refine Below.setCell ?_ (by first | omega | (simp; done) | (simp; omega)) _) | (refine Below.alloc ?_ (by first | omega | (simp; done) | (simp; omega)) _) | (refine below_drewN ?_ _) | (refine Below.drew ?_) | (refine Below.trans ?_ (Below.mono hb (by first | omega | (simp; done) | (simp; omega)))) | (refine Below.trans ?_ (Below.mono hb1 (by first | omega | (simp; done) | (simp; omega)))) | (refine Below.trans ?_ (Below.mono hb2 (by first | omega | (simp; done) | (simp; omega)))) | (refine Below.trans ?_ (Below.mono hb3 (by first | omega | (simp; done) | (simp; omega)))) | (refine Below.trans ?_ (Below.mono hb4 (by first | omega | (simp; done) | (simp; omega)))) | (refine Below.trans ?_ (Below.mono hb5 (by first | omega | (simp; done) | (simp; omega)))) | (refine Below.trans ?_ (Below.mono hb6 (by first | omega | (simp; done) | (simp; omega)))) | (refine Below.trans ?_ (Below.mono hb7 (by first | omega | (simp; done) | (simp; omega)))) | (refine Below.trans ?_ (Below.mono hb8 (by first | omega | (simp; done) | (simp; omega)))) | (refine Below.trans ?_ (Below.mono hb9 (by first | omega | (simp; done) | (simp; omega)))) | (refine Below.trans ?_ (Below.mono hb10 (by first | omega | (simp; done) | (simp; omega)))) | (refine Below.trans ?_ (Below.mono hb11 (by first | omega | (simp; done) | (simp; omega)))) | (refine Below.trans ?_ (Below.mono hb12 (by first | omega | (simp; done) | (simp; omega))))))
    have s0 : w1.cell? ⟨w.heap.size, 0, none⟩ = some (.int .i64 r) := (hb1.cell (by simp)).trans (by simp [go_sem])
    have s1 : w1.cell? ⟨w.heap.size, 1, none⟩ = some (.int .i64 c) := (hb1.cell (by simp)).trans (by simp [go_sem])
    have hA1 := hA.below hB
    have hO1 := hO.below hB
    have hz1 := hB.size
    clear hb1 hA
    go_wp2_with fail
    refine (made16_in r c ao cs cap0 hA1 h1 h2).mono ?_
    rw [HPN.out]
    rintro e w2 ⟨g, b, cap, b', cap', rfl, hP, hR2, hgg, hgb, hgb', hn1, hn2, hb2⟩
    replace hO1 := hO1.below hb2
    replace hB := hB.trans (hb2.mono hB.size)
    have hz2 := hB.size
    have hok := hP.ok
    have hn := Pl.N_pos hok
    have hm := Pl.N_le hok
    clear s0 s1 hA1 hb2 hR2 hn1 hn2 hgb' HPN
    go_wp2_with fail
    refine (few_any os oo capo _ (hO1.below (by with_reducible (repeat (first | exact Below.refl _ _ | assumption | (refine Below.setCell ?_ (by first | omega | (simp; done) | (simp; omega)) _) | (refine Below.alloc ?_ (by first | omega | (simp; done) | (simp; omega)) _) | (refine below_drewN ?_ _) | (refine Below.drew ?_) | (refine Below.trans ?_ (Below.mono hb (by first | omega | (simp; done) | (simp; omega)))) | (refine Below.trans ?_ (Below.mono hb1 (by first | omega | (simp; done) | (simp; omega)))) | (refine Below.trans ?_ (Below.mono hb2 (by first | omega | (simp; done) | (simp; omega)))) | (refine Below.trans ?_ (Below.mono hb3 (by first | omega | (simp; done) | (simp; omega)))) | (refine Below.trans ?_ (Below.mono hb4 (by first | omega | (simp; done) | (simp; omega)))) | (refine Below.trans ?_ (Below.mono hb5 (by first | omega | (simp; done) | (simp; omega)))) | (refine Below.trans ?_ (Below.mono hb6 (by first | omega | (simp; done) | (simp; omega)))) | (refine Below.trans ?_ (Below.mono hb7 (by first | omega | (simp; done) | (simp; omega)))) | (refine Below.trans ?_ (Below.mono hb8 (by first | omega | (simp; done) | (simp; omega)))) | (refine Below.trans ?_ (Below.mono hb9 (by first | omega | (simp; done) | (simp; omega)))) | (refine Below.trans ?_ (Below.mono hb10 (by first | omega | (simp; done) | (simp; omega)))) | (refine Below.trans ?_ (Below.mono hb11 (by first | omega | (simp; done) | (simp; omega)))) | (refine Below.trans ?_ (Below.mono hb12 (by first | omega | (simp; done) | (simp; omega))))))))).mono ?_
    cases hf : fewB os
    · rintro e w3 ⟨rfl, hb3⟩
      go_wp2
      go_ret
      exact ⟨by rfl, by with_reducible (repeat (first | exact Below.refl _ _ | assumption | (refine Below.setCell ?_ (by first | omega | (simp; done) | (simp; omega)) _) | (refine Below.alloc ?_ (by first | omega | (simp; done) | (simp; omega)) _) | (refine below_drewN ?_ _) | (refine Below.drew ?_) | (refine Below.trans ?_ (Below.mono hb (by first | omega | (simp; done) | (simp; omega)))) | (refine Below.trans ?_ (Below.mono hb1 (by first | omega | (simp; done) | (simp; omega)))) | (refine Below.trans ?_ (Below.mono hb2 (by first | omega | (simp; done) | (simp; omega)))) | (refine Below.trans ?_ (Below.mono hb3 (by first | omega | (simp; done) | (simp; omega)))) | (refine Below.trans ?_ (Below.mono hb4 (by first | omega | (simp; done) | (simp; omega)))) | (refine Below.trans ?_ (Below.mono hb5 (by first | omega | (simp; done) | (simp; omega)))) | (refine Below.trans ?_ (Below.mono hb6 (by first | omega | (simp; done) | (simp; omega)))) | (refine Below.trans ?_ (Below.mono hb7 (by first | omega | (simp; done) | (simp; omega)))) | (refine Below.trans ?_ (Below.mono hb8 (by first | omega | (simp; done) | (simp; omega)))) | (refine Below.trans ?_ (Below.mono hb9 (by first | omega | (simp; done) | (simp; omega)))) | (refine Below.trans ?_ (Below.mono hb10 (by first | omega | (simp; done) | (simp; omega)))) | (refine Below.trans ?_ (Below.mono hb11 (by first | omega | (simp; done) | (simp; omega)))) | (refine Below.trans ?_ (Below.mono hb12 (by first | omega | (simp; done) | (simp; omega))))))⟩
    · have hl20 := few_len hf
      clear hf
      rintro e w3 ⟨rfl, hb3⟩
      have hB23 : Below w2.heap.size w2 w3 := by with_reducible (repeat (first | exact Below.refl _ _ | assumption | (refine Below.setCell ?_ (by first | omega | (simp; done) | (simp; omega)) _) | (refine Below.alloc ?_ (by first | omega | (simp; done) | (simp; omega)) _) | (refine below_drewN ?_ _) | (refine Below.drew ?_) | (refine Below.trans ?_ (Below.mono hb (by first | omega | (simp; done) | (simp; omega)))) | (refine Below.trans ?_ (Below.mono hb1 (by first | omega | (simp; done) | (simp; omega)))) | (refine Below.trans ?_ (Below.mono hb2 (by first | omega | (simp; done) | (simp; omega)))) | (refine Below.trans ?_ (Below.mono hb3 (by first | omega | (simp; done) | (simp; omega)))) | (refine Below.trans ?_ (Below.mono hb4 (by first | omega | (simp; done) | (simp; omega)))) | (refine Below.trans ?_ (Below.mono hb5 (by first | omega | (simp; done) | (simp; omega)))) | (refine Below.trans ?_ (Below.mono hb6 (by first | omega | (simp; done) | (simp; omega)))) | (refine Below.trans ?_ (Below.mono hb7 (by first | omega | (simp; done) | (simp; omega)))) | (refine Below.trans ?_ (Below.mono hb8 (by first | omega | (simp; done) | (simp; omega)))) | (refine Below.trans ?_ (Below.mono hb9 (by first | omega | (simp; done) | (simp; omega)))) | (refine Below.trans ?_ (Below.mono hb10 (by first | omega | (simp; done) | (simp; omega)))) | (refine Below.trans ?_ (Below.mono hb11 (by first | omega | (simp; done) | (simp; omega)))) | (refine Below.trans ?_ (Below.mono hb12 (by first | omega | (simp; done) | (simp; omega))))))
      replace hP := hP.below hB23
      replace hO1 := hO1.below hB23
      replace hB := hB.trans (hB23.mono hz2)
      have hz3 := hB.size
      clear hb3 hB23
      by_cases h0 : fr < 0
      · go_wp2
        go_ret
        exact ⟨by rfl, hB⟩
      by_cases h9 : (P.cells.length : Int) ≤ fr
      · go_wp2_with fail
        refine (Len_any hP).mono ?_
        rintro e w4 ⟨rfl, hbb⟩
        replace hB := hB.trans (hbb.mono (by first | exact hB.size | (have := hB.size; simp; omega)))
        have hz4 := hB.size
        have hzz4 := hbb.size
        try simp only [World.size_alloc, World.size_drew, World.size_setCell] at hzz4
        clear hbb
        go_wp2
        go_ret
        exact ⟨by rfl, hB⟩
      have f0 : 0 ≤ fr := by omega
      have f1 : fr < (P.cells.length : Int) := by omega
      clear h0 h9
      go_wp2_with fail
      refine (Len_any hP).mono ?_
      rintro e w4 ⟨rfl, hbb⟩
      replace hP := hP.below hbb
      replace hO1 := hO1.below hbb
      replace hB := hB.trans (hbb.mono (by first | exact hB.size | (have := hB.size; simp; omega)))
      have hz4 := hB.size
      have hzz4 := hbb.size
      try simp only [World.size_alloc, World.size_drew, World.size_setCell] at hzz4
      clear hbb
      have hL0 : (0 : Int) < (os.length : Int) + 1 := by omega
      have hmod : (c2 % 256).tmod ((os.length : Int) + 1) = c2 % 256 % ((os.length : Int) + 1) := Int.tmod_eq_emod_of_nonneg (by omega)
      have hband := i64_and255 c2
      obtain ⟨ct, hct⟩ : ∃ ct : Nat, c2 % 256 % ((os.length : Int) + 1) = (ct : Int) := ⟨(c2 % 256 % ((os.length : Int) + 1)).toNat, by have := Int.emod_nonneg (c2 % 256) (show (os.length : Int) + 1 ≠ 0 by omega); omega⟩
      have hctl : (ct : Int) < (os.length : Int) + 1 := by rw [← hct]; exact Int.emod_lt_of_pos _ hL0
      rw [hct] at hmod
      clear hct
      go_wp2
      go_loopw [64] (fun i wr => ∃ k : Nat, k ≤ os.length ∧ i = .int .i64 (k : Int) ∧ Hid (∀ j (hj : j < os.length), j < k → (j < ct → os[j].kind ≠ 40) ∧ (ct ≤ j → os[j].kind ≠ 5)) ∧ Below w4.heap.size w4 wr) (fun i _ => os.length - (intOf i).toNat)
      case atStart => exact ⟨0, Nat.zero_le _, rfl, fun j hj hk => absurd hk (Nat.not_lt_zero _), Below.refl _ _⟩
      case round =>
        obtain ⟨k, hk, rfl, HA, hBr⟩ := hrel
        replace hO1 := hO1.below hBr
        have hzr := hBr.size
        by_cases hlt : k < os.length
        · have hlt' : (k : Int) < (os.length : Int) := by omega
          obtain ⟨b1, o1, rf, he, -, q0, q1, q2, q3, q4, q5, hr⟩ := hO1.2 k hlt
          obtain ⟨o, hoe⟩ : ∃ o, os[k] = o := ⟨_, rfl⟩
          rw [hoe] at q0 q1 q2 q3 q4 q5
          have HO := Lib.hid hoe
          have hstep : ∀ (hx : (k < ct → o.kind ≠ 40) ∧ (ct ≤ k → o.kind ≠ 5)), ∀ j (hj : j < os.length), j < k + 1 → (j < ct → os[j].kind ≠ 40) ∧ (ct ≤ j → os[j].kind ≠ 5) := by
            intro hx j hj hjk
            by_cases e : j < k
            · exact HA.out j hj e
            · have : j = k := by omega
              subst this
              rw [HO.out]
              exact hx
          have HST := Lib.hid hstep
          rw [he]
          clear he hoe hr hstep
          by_cases hkc : k < ct
          · have d1 : decide (k < ct) = true := decide_eq_true hkc
            have d2 : decide (ct ≤ k) = false := decide_eq_false (by omega)
            cases h40 : (o.kind == 40)
            · have hne : o.kind ≠ 40 := beq_eq_false_iff_ne.1 h40
              have HN := Lib.hid hne
              clear hne
              go_wp2
              go_roundw
              case rel => exact ⟨k + 1, by omega, by go_num, HST.out ⟨fun _ => HN.out, fun h => by omega⟩, by with_reducible (repeat (first | exact Below.refl _ _ | assumption | (refine Below.setCell ?_ (by first | omega | (simp; done) | (simp; omega)) _) | (refine Below.alloc ?_ (by first | omega | (simp; done) | (simp; omega)) _) | (refine below_drewN ?_ _) | (refine Below.drew ?_) | (refine Below.trans ?_ (Below.mono hb (by first | omega | (simp; done) | (simp; omega)))) | (refine Below.trans ?_ (Below.mono hb1 (by first | omega | (simp; done) | (simp; omega)))) | (refine Below.trans ?_ (Below.mono hb2 (by first | omega | (simp; done) | (simp; omega)))) | (refine Below.trans ?_ (Below.mono hb3 (by first | omega | (simp; done) | (simp; omega)))) | (refine Below.trans ?_ (Below.mono hb4 (by first | omega | (simp; done) | (simp; omega)))) | (refine Below.trans ?_ (Below.mono hb5 (by first | omega | (simp; done) | (simp; omega)))) | (refine Below.trans ?_ (Below.mono hb6 (by first | omega | (simp; done) | (simp; omega)))) | (refine Below.trans ?_ (Below.mono hb7 (by first | omega | (simp; done) | (simp; omega)))) | (refine Below.trans ?_ (Below.mono hb8 (by first | omega | (simp; done) | (simp; omega)))) | (refine Below.trans ?_ (Below.mono hb9 (by first | omega | (simp; done) | (simp; omega)))) | (refine Below.trans ?_ (Below.mono hb10 (by first | omega | (simp; done) | (simp; omega)))) | (refine Below.trans ?_ (Below.mono hb11 (by first | omega | (simp; done) | (simp; omega)))) | (refine Below.trans ?_ (Below.mono hb12 (by first | omega | (simp; done) | (simp; omega))))))⟩
              case measure => simp [intOf]; omega
            · go_wp2
              go_ret
              exact ⟨by rfl, hB.trans ((show Below w4.heap.size w4 _ by with_reducible (repeat (first | exact Below.refl _ _ | assumption | (refine Below.setCell ?_ (by first | omega | (simp; done) | (simp; omega)) _) | (refine Below.alloc ?_ (by first | omega | (simp; done) | (simp; omega)) _) | (refine below_drewN ?_ _) | (refine Below.drew ?_) | (refine Below.trans ?_ (Below.mono hb (by first | omega | (simp; done) | (simp; omega)))) | (refine Below.trans ?_ (Below.mono hb1 (by first | omega | (simp; done) | (simp; omega)))) | (refine Below.trans ?_ (Below.mono hb2 (by first | omega | (simp; done) | (simp; omega)))) | (refine Below.trans ?_ (Below.mono hb3 (by first | omega | (simp; done) | (simp; omega)))) | (refine Below.trans ?_ (Below.mono hb4 (by first | omega | (simp; done) | (simp; omega)))) | (refine Below.trans ?_ (Below.mono hb5 (by first | omega | (simp; done) | (simp; omega)))) | (refine Below.trans ?_ (Below.mono hb6 (by first | omega | (simp; done) | (simp; omega)))) | (refine Below.trans ?_ (Below.mono hb7 (by first | omega | (simp; done) | (simp; omega)))) | (refine Below.trans ?_ (Below.mono hb8 (by first | omega | (simp; done) | (simp; omega)))) | (refine Below.trans ?_ (Below.mono hb9 (by first | omega | (simp; done) | (simp; omega)))) | (refine Below.trans ?_ (Below.mono hb10 (by first | omega | (simp; done) | (simp; omega)))) | (refine Below.trans ?_ (Below.mono hb11 (by first | omega | (simp; done) | (simp; omega)))) | (refine Below.trans ?_ (Below.mono hb12 (by first | omega | (simp; done) | (simp; omega))))))).mono hB.size)⟩
          · have d1 : decide (k < ct) = false := decide_eq_false hkc
            have d2 : decide (ct ≤ k) = true := decide_eq_true (by omega)
            cases h5 : (o.kind == 5)
            · have hne : o.kind ≠ 5 := beq_eq_false_iff_ne.1 h5
              have HN := Lib.hid hne
              clear hne
              go_wp2
              go_roundw
              case rel => exact ⟨k + 1, by omega, by go_num, HST.out ⟨fun h => by omega, fun _ => HN.out⟩, by with_reducible (repeat (first | exact Below.refl _ _ | assumption | (refine Below.setCell ?_ (by first | omega | (simp; done) | (simp; omega)) _) | (refine Below.alloc ?_ (by first | omega | (simp; done) | (simp; omega)) _) | (refine below_drewN ?_ _) | (refine Below.drew ?_) | (refine Below.trans ?_ (Below.mono hb (by first | omega | (simp; done) | (simp; omega)))) | (refine Below.trans ?_ (Below.mono hb1 (by first | omega | (simp; done) | (simp; omega)))) | (refine Below.trans ?_ (Below.mono hb2 (by first | omega | (simp; done) | (simp; omega)))) | (refine Below.trans ?_ (Below.mono hb3 (by first | omega | (simp; done) | (simp; omega)))) | (refine Below.trans ?_ (Below.mono hb4 (by first | omega | (simp; done) | (simp; omega)))) | (refine Below.trans ?_ (Below.mono hb5 (by first | omega | (simp; done) | (simp; omega)))) | (refine Below.trans ?_ (Below.mono hb6 (by first | omega | (simp; done) | (simp; omega)))) | (refine Below.trans ?_ (Below.mono hb7 (by first | omega | (simp; done) | (simp; omega)))) | (refine Below.trans ?_ (Below.mono hb8 (by first | omega | (simp; done) | (simp; omega)))) | (refine Below.trans ?_ (Below.mono hb9 (by first | omega | (simp; done) | (simp; omega)))) | (refine Below.trans ?_ (Below.mono hb10 (by first | omega | (simp; done) | (simp; omega)))) | (refine Below.trans ?_ (Below.mono hb11 (by first | omega | (simp; done) | (simp; omega)))) | (refine Below.trans ?_ (Below.mono hb12 (by first | omega | (simp; done) | (simp; omega))))))⟩
              case measure => simp [intOf]; omega
            · go_wp2
              go_ret
              exact ⟨by rfl, hB.trans ((show Below w4.heap.size w4 _ by with_reducible (repeat (first | exact Below.refl _ _ | assumption | (refine Below.setCell ?_ (by first | omega | (simp; done) | (simp; omega)) _) | (refine Below.alloc ?_ (by first | omega | (simp; done) | (simp; omega)) _) | (refine below_drewN ?_ _) | (refine Below.drew ?_) | (refine Below.trans ?_ (Below.mono hb (by first | omega | (simp; done) | (simp; omega)))) | (refine Below.trans ?_ (Below.mono hb1 (by first | omega | (simp; done) | (simp; omega)))) | (refine Below.trans ?_ (Below.mono hb2 (by first | omega | (simp; done) | (simp; omega)))) | (refine Below.trans ?_ (Below.mono hb3 (by first | omega | (simp; done) | (simp; omega)))) | (refine Below.trans ?_ (Below.mono hb4 (by first | omega | (simp; done) | (simp; omega)))) | (refine Below.trans ?_ (Below.mono hb5 (by first | omega | (simp; done) | (simp; omega)))) | (refine Below.trans ?_ (Below.mono hb6 (by first | omega | (simp; done) | (simp; omega)))) | (refine Below.trans ?_ (Below.mono hb7 (by first | omega | (simp; done) | (simp; omega)))) | (refine Below.trans ?_ (Below.mono hb8 (by first | omega | (simp; done) | (simp; omega)))) | (refine Below.trans ?_ (Below.mono hb9 (by first | omega | (simp; done) | (simp; omega)))) | (refine Below.trans ?_ (Below.mono hb10 (by first | omega | (simp; done) | (simp; omega)))) | (refine Below.trans ?_ (Below.mono hb11 (by first | omega | (simp; done) | (simp; omega)))) | (refine Below.trans ?_ (Below.mono hb12 (by first | omega | (simp; done) | (simp; omega))))))).mono hB.size)⟩
        · have ek : k = os.length := by omega
          have hge : (os.length : Int) ≤ (k : Int) := by omega
          have hT : ∀ o ∈ os.take ct, o.kind ≠ 40 := by
            intro o ho
            obtain ⟨j, hj, rfl⟩ := List.getElem_of_mem ho
            rw [List.length_take] at hj
            rw [List.getElem_take]
            exact (HA.out j (by omega) (by omega)).1 (by omega)
          have hD : ∀ o ∈ os.drop ct, o.kind ≠ 5 := by
            intro o ho
            obtain ⟨j, hj, rfl⟩ := List.getElem_of_mem ho
            rw [List.length_drop] at hj
            rw [List.getElem_drop]
            exact (HA.out (ct + j) (by omega) (by omega)).2 (by omega)
          obtain ⟨hcut1, hcut2⟩ := run_cut P fr os ct hT hD
          replace hP := hP.below hBr
          replace hB := hB.trans (hBr.mono hB.size)
          have hos : ∀ o ∈ os, o.ok := by
            intro o ho
            obtain ⟨k, hk, rfl⟩ := List.getElem_of_mem ho
            obtain ⟨_, _, _, _, _, _, _, _, _, _, _, hr⟩ := hO.2 k hk
            exact hr.ok
          obtain ⟨⟨t, m, er⟩, hR0⟩ : ∃ R, (Br.new P fr).run os = R := ⟨_, rfl⟩
          obtain ⟨⟨u, m1, e1⟩, hU⟩ : ∃ R, (Br.new P fr).run (os.take ct) = R := ⟨_, rfl⟩
          have hml : m ≤ os.length := by have := run_len (Br.new P fr) os; rw [hR0] at this; exact this
          have hm1l : m1 ≤ os.length := by have := run_len (Br.new P fr) (os.take ct); rw [hU] at this; have h2 := List.length_take_le ct os; have h3 : (os.take ct).length ≤ os.length := by rw [List.length_take]; omega
                                           exact Nat.le_trans this h3
          have huok : u.ok := by have := run_state_ok (Br.new_ok hok f0 f1) (os := os.take ct) (fun o ho => hos o (List.mem_of_mem_take ho)); rw [hU] at this; exact this
          rw [hU, hR0] at hcut1 hcut2
          simp only at hcut1 hcut2
          have HR := Lib.hid hR0
          have HU := Lib.hid hU
          have HC1 := Lib.hid hcut1
          have HC2 := Lib.hid hcut2
          have hctn : ct ≤ os.length := by omega
          clear hcut1 hcut2 hR0 hU hT hD HA hBr ek hlt hos hO hmod hband
          have hz5 := hB.size
          go_wp2_with fail
          refine (Clone_any hP).mono ?_
          rintro e w6 ⟨gq, bq, capq, rfl, hQ, hgq, hbq, hbb⟩
          have hgl := hP.gl
          have hbl := hP.bl
          replace hP := hP.below hbb
          replace hO1 := hO1.below hbb
          replace hB := hB.trans (hbb.mono hz5)
          have hz6 := hB.size
          have hzz6 := hbb.size
          clear hbb
          go_wp2_with fail
          refine (Clone_any hP).mono ?_
          rintro e w7 ⟨gr, br, capr, rfl, hR, hgr, hbr, hbb⟩
          have hglq := hQ.gl
          have hblq := hQ.bl
          replace hP := hP.below hbb
          replace hQ := hQ.below hbb
          replace hO1 := hO1.below hbb
          replace hB := hB.trans (hbb.mono hz6)
          have hz7 := hB.size
          have hzz7 := hbb.size
          have hglr := hR.gl
          have hblr := hR.bl
          clear hbb
          have hNG : ∀ k, k < w.heap.size → ¬ GB g b k ∧ ¬ GB gq bq k ∧ ¬ GB gr br k := fun k hk => by unfold GB; omega
          have HNG := Lib.hid hNG
          clear hNG
          go_wp2_with fail
          refine (Paint_in hP os oo capo (hO1.weak (fun k _ e => by rcases e with e | e <;> (show w.heap.size ≤ k) <;> omega)) fr f0 f1 (t, m, er) HR).mono ?_
          rintro e w8 ⟨rfl, hnew, hkk⟩
          replace hQ := hQ.chg hkk (by unfold GB; omega) (by unfold GB; omega)
          replace hR := hR.chg hkk (by unfold GB; omega) (by unfold GB; omega)
          replace hO1 := hO1.chg hkk (fun k _ e => by rcases e with e | e <;> (show w.heap.size ≤ k) <;> omega)
          replace hB := hB.trans (hkk.below hz7 (fun j hj => by unfold GB at hj; omega))
          have hz8 := hB.size
          have hzz8 := hkk.size
          clear hkk hP
          have hP := hnew
          clear hnew
          simp only at hP
          go_wp2_with fail
          refine (Paint_n hQ (os.take ct) ct (by show (os.take ct).length = ct; rw [List.length_take]; omega) oo capo (orow_take (hO1.weak (fun k _ e => by rcases e with e | e <;> (show w.heap.size ≤ k) <;> omega)) ct) fr f0 f1 (u, m1, e1) HU).mono ?_
          rintro e w9 ⟨rfl, hnew, hkk⟩
          replace hP := hP.chg hkk (by unfold GB; omega) (by unfold GB; omega)
          replace hR := hR.chg hkk (by unfold GB; omega) (by unfold GB; omega)
          replace hO1 := hO1.chg hkk (fun k _ e => by rcases e with e | e <;> (show w.heap.size ≤ k) <;> omega)
          replace hB := hB.trans (hkk.below hz8 (fun j hj => by unfold GB at hj; omega))
          have hz9 := hB.size
          have hzz9 := hkk.size
          clear hkk hQ
          have hQ := hnew
          clear hnew
          simp only at hQ
          by_cases he : e1 = 0
          · subst he
            obtain ⟨v1, v2, v3, v4⟩ := HC1.out rfl hctn
            obtain ⟨⟨v, m2, e2⟩, hV⟩ : ∃ R, (Br.new u.P u.pos).run (os.drop ct) = R := ⟨_, rfl⟩
            rw [hV] at v1 v2 v3 v4
            simp only at v1 v2 v3 v4
            subst v4
            have HV := Lib.hid hV
            have V1 := Lib.hid v1
            have V2 := Lib.hid v2
            have hsum : (m1 : Int) + (m2 : Int) = (m : Int) := by omega
            have hwr : IntKind.i64.wrap ((m1 : Int) + (m2 : Int)) = (m : Int) := by rw [IntWalk.i64_in _ (by omega)]; exact hsum
            clear hV v1 v2 v3
            have hdl : (os.drop ct).length = os.length - ct := List.length_drop
            by_cases hcc : capo = ct
            · subst hcc
              go_wp2_with fail
              refine (Paint_n hQ (os.drop capo) 0 (show (os.drop capo).length = 0 by rw [List.length_drop]; omega) oo 0 (orow_drop1 (hO1.weak (fun k _ e => by rcases e with e | e <;> (show w.heap.size ≤ k) <;> omega)) capo capo hctn rfl hoc) u.pos huok.a0 huok.a1 (v, m2, e2) HV).mono ?_
              simp only [V1.out, V2.out]
              rintro e w10 ⟨rfl, hnew, hkk⟩
              replace hP := hP.chg hkk (by unfold GB; omega) (by unfold GB; omega)
              replace hR := hR.chg hkk (by unfold GB; omega) (by unfold GB; omega)
              replace hO1 := hO1.chg hkk (fun k _ e => by rcases e with e | e <;> (show w.heap.size ≤ k) <;> omega)
              replace hB := hB.trans (hkk.below hz9 (fun j hj => by unfold GB at hj; omega))
              have hz10 := hB.size
              have hzz10 := hkk.size
              clear hkk hQ
              have hQ := hnew
              clear hnew
              have hpre := run_prefix (Br.new P fr) os
              rw [HR.out] at hpre
              obtain ⟨l9, hp1, hp2⟩ := hpre
              obtain ⟨s9, hs9⟩ : ∃ s9, (Br.new P fr).run (os.take m) = s9 := ⟨_, rfl⟩
              simp only [hs9] at hp1 hp2
              obtain ⟨s9, n9, e9⟩ := s9
              simp only [Prod.mk.injEq] at hp2
              obtain ⟨rfl, rfl⟩ := hp2
              have hpp : s9.P = t.P ∧ s9.pos = t.pos := by rw [← hp1]; exact ⟨rfl, rfl⟩
              have HPP := Lib.hid hpp
              have HS9 := Lib.hid hs9
              clear hp1 hpp hs9
              go_wp2_with fail
              refine (Paint_n hR (os.take n9) n9 (by show (os.take n9).length = n9; rw [List.length_take]; omega) oo capo (orow_take (hO1.weak (fun k _ e => by rcases e with e | e <;> (show w.heap.size ≤ k) <;> omega)) n9) fr f0 f1 (s9, n9, 0) HS9).mono ?_
              simp only [HPP.out.1, HPP.out.2]
              rintro e w20 ⟨rfl, hnew, hkk⟩
              replace hP := hP.chg hkk (by unfold GB; omega) (by unfold GB; omega)
              replace hQ := hQ.chg hkk (by unfold GB; omega) (by unfold GB; omega)
              replace hB := hB.trans (hkk.below hB.size (fun j hj => by unfold GB at hj; omega))
              have hz20 := hB.size
              clear hkk hR
              go_wp2_with fail
              refine (Same_any hP hQ).mono ?_
              rw [samePl_refl]
              rintro e w21 ⟨rfl, hbb⟩
              replace hP := hP.below hbb
              replace hnew := hnew.below hbb
              replace hB := hB.trans (hbb.mono hz20)
              clear hbb
              go_wp2_with fail
              refine (Same_any hP hnew).mono ?_
              rw [samePl_refl]
              rintro e w22 ⟨rfl, hbb⟩
              replace hB := hB.trans (hbb.mono hB.size)
              go_wp2
              go_ret
              exact ⟨by rfl, hB⟩
            · go_wp2_with fail
              refine (Paint_n hQ (os.drop ct) (os.length - ct) hdl (oo.map (·.add (ct * 6))) (capo - ct) (orow_drop2 (hO1.weak (fun k _ e => by rcases e with e | e <;> (show w.heap.size ≤ k) <;> omega)) ct capo hctn hcc hoc) u.pos huok.a0 huok.a1 (v, m2, e2) HV).mono ?_
              simp only [V1.out, V2.out]
              rintro e w10 ⟨rfl, hnew, hkk⟩
              replace hP := hP.chg hkk (by unfold GB; omega) (by unfold GB; omega)
              replace hR := hR.chg hkk (by unfold GB; omega) (by unfold GB; omega)
              replace hO1 := hO1.chg hkk (fun k _ e => by rcases e with e | e <;> (show w.heap.size ≤ k) <;> omega)
              replace hB := hB.trans (hkk.below hz9 (fun j hj => by unfold GB at hj; omega))
              have hz10 := hB.size
              have hzz10 := hkk.size
              clear hkk hQ
              have hQ := hnew
              clear hnew
              have hpre := run_prefix (Br.new P fr) os
              rw [HR.out] at hpre
              obtain ⟨l9, hp1, hp2⟩ := hpre
              obtain ⟨s9, hs9⟩ : ∃ s9, (Br.new P fr).run (os.take m) = s9 := ⟨_, rfl⟩
              simp only [hs9] at hp1 hp2
              obtain ⟨s9, n9, e9⟩ := s9
              simp only [Prod.mk.injEq] at hp2
              obtain ⟨rfl, rfl⟩ := hp2
              have hpp : s9.P = t.P ∧ s9.pos = t.pos := by rw [← hp1]; exact ⟨rfl, rfl⟩
              have HPP := Lib.hid hpp
              have HS9 := Lib.hid hs9
              clear hp1 hpp hs9
              go_wp2_with fail
              refine (Paint_n hR (os.take n9) n9 (by show (os.take n9).length = n9; rw [List.length_take]; omega) oo capo (orow_take (hO1.weak (fun k _ e => by rcases e with e | e <;> (show w.heap.size ≤ k) <;> omega)) n9) fr f0 f1 (s9, n9, 0) HS9).mono ?_
              simp only [HPP.out.1, HPP.out.2]
              rintro e w20 ⟨rfl, hnew, hkk⟩
              replace hP := hP.chg hkk (by unfold GB; omega) (by unfold GB; omega)
              replace hQ := hQ.chg hkk (by unfold GB; omega) (by unfold GB; omega)
              replace hB := hB.trans (hkk.below hB.size (fun j hj => by unfold GB at hj; omega))
              have hz20 := hB.size
              clear hkk hR
              go_wp2_with fail
              refine (Same_any hP hQ).mono ?_
              rw [samePl_refl]
              rintro e w21 ⟨rfl, hbb⟩
              replace hP := hP.below hbb
              replace hnew := hnew.below hbb
              replace hB := hB.trans (hbb.mono hz20)
              clear hbb
              go_wp2_with fail
              refine (Same_any hP hnew).mono ?_
              rw [samePl_refl]
              rintro e w22 ⟨rfl, hbb⟩
              replace hB := hB.trans (hbb.mono hB.size)
              go_wp2
              go_ret
              exact ⟨by rfl, hB⟩
          · have hut := HC2.out he
            simp only [Prod.mk.injEq] at hut
            obtain ⟨k1, k2, k3⟩ := hut
            obtain rfl := k1.symm
            obtain rfl := k2.symm
            obtain rfl := k3.symm
            have he1 : (er == 0) = false := beq_eq_false_iff_ne.2 he
            clear he
            have hpre := run_prefix (Br.new P fr) os
            rw [HR.out] at hpre
            obtain ⟨l9, hp1, hp2⟩ := hpre
            obtain ⟨s9, hs9⟩ : ∃ s9, (Br.new P fr).run (os.take m) = s9 := ⟨_, rfl⟩
            simp only [hs9] at hp1 hp2
            obtain ⟨s9, n9, e9⟩ := s9
            simp only [Prod.mk.injEq] at hp2
            obtain ⟨rfl, rfl⟩ := hp2
            have hpp : s9.P = t.P ∧ s9.pos = t.pos := by rw [← hp1]; exact ⟨rfl, rfl⟩
            have HPP := Lib.hid hpp
            have HS9 := Lib.hid hs9
            clear hp1 hpp hs9
            go_wp2_with fail
            refine (Paint_n hR (os.take n9) n9 (by show (os.take n9).length = n9; rw [List.length_take]; omega) oo capo (orow_take (hO1.weak (fun k _ e => by rcases e with e | e <;> (show w.heap.size ≤ k) <;> omega)) n9) fr f0 f1 (s9, n9, 0) HS9).mono ?_
            simp only [HPP.out.1, HPP.out.2]
            rintro e w20 ⟨rfl, hnew, hkk⟩
            replace hP := hP.chg hkk (by unfold GB; omega) (by unfold GB; omega)
            replace hQ := hQ.chg hkk (by unfold GB; omega) (by unfold GB; omega)
            replace hB := hB.trans (hkk.below hB.size (fun j hj => by unfold GB at hj; omega))
            have hz20 := hB.size
            clear hkk hR
            go_wp2_with fail
            refine (Same_any hP hQ).mono ?_
            rw [samePl_refl]
            rintro e w21 ⟨rfl, hbb⟩
            replace hP := hP.below hbb
            replace hnew := hnew.below hbb
            replace hB := hB.trans (hbb.mono hz20)
            clear hbb
            go_wp2_with fail
            refine (Same_any hP hnew).mono ?_
            rw [samePl_refl]
            rintro e w22 ⟨rfl, hbb⟩
            replace hB := hB.trans (hbb.mono hB.size)
            go_wp2
            go_ret
            exact ⟨by rfl, hB⟩
  · have hbad := not_good16 h
    go_enter Try.func12, Try.ntmps12
    go_wp2_with fail
    refine (alive16_any _).mono ?_
    rintro e w1 ⟨rfl, hb1⟩
    have hB1 : Below w.heap.size w w1 := by with_reducible (repeat (first | exact Below.refl _ _ | assumption | (refine Below.setCell ?_ (by first | omega | (simp; done) | (simp; omega)) _) | (refine Below.alloc ?_ (by first | omega | (simp; done) | (simp; omega)) _) | (refine below_drewN ?_ _) | (refine Below.drew ?_) | (refine Below.trans ?_ (Below.mono hb (by first | omega | (simp; done) | (simp; omega)))) | (refine Below.trans ?_ (Below.mono hb1 (by first | omega | (simp; done) | (simp; omega)))) | (refine Below.trans ?_ (Below.mono hb2 (by first | omega | (simp; done) | (simp; omega)))) | (refine Below.trans ?_ (Below.mono hb3 (by first | omega | (simp; done) | (simp; omega)))) | (refine Below.trans ?_ (Below.mono hb4 (by first | omega | (simp; done) | (simp; omega)))) | (refine Below.trans ?_ (Below.mono hb5 (by first | omega | (simp; done) | (simp; omega)))) | (refine Below.trans ?_ (Below.mono hb6 (by first | omega | (simp; done) | (simp; omega)))) | (refine Below.trans ?_ (Below.mono hb7 (by first | omega | (simp; done) | (simp; omega)))) | (refine Below.trans ?_ (Below.mono hb8 (by first | omega | (simp; done) | (simp; omega)))) | (refine Below.trans ?_ (Below.mono hb9 (by first | omega | (simp; done) | (simp; omega)))) | (refine Below.trans ?_ (Below.mono hb10 (by first | omega | (simp; done) | (simp; omega)))) | (refine Below.trans ?_ (Below.mono hb11 (by first | omega | (simp; done) | (simp; omega)))) | (refine Below.trans ?_ (Below.mono hb12 (by first | omega | (simp; done) | (simp; omega))))))
    have s0 : w1.cell? ⟨w.heap.size, 0, none⟩ = some (.int .i64 r) := (hb1.cell (by simp)).trans (by simp [go_sem])
    have s1 : w1.cell? ⟨w.heap.size, 1, none⟩ = some (.int .i64 c) := (hb1.cell (by simp)).trans (by simp [go_sem])
    clear hb1
    go_wp2_with fail
    refine (made16_bad r c _ hbad).mono ?_
    rintro e w2 ⟨x0, x1, x3, so, sn, sm, rfl, hb2⟩
    have hB2 := hB1.trans (hb2.mono hB1.size)
    have hz2 := hB2.size
    clear s0 s1
    go_wp2
    go_ret
    exact ⟨by rfl, by with_reducible (repeat (first | exact Below.refl _ _ | assumption | (refine Below.setCell ?_ (by first | omega | (simp; done) | (simp; omega)) _) | (refine Below.alloc ?_ (by first | omega | (simp; done) | (simp; omega)) _) | (refine below_drewN ?_ _) | (refine Below.drew ?_) | (refine Below.trans ?_ (Below.mono hb (by first | omega | (simp; done) | (simp; omega)))) | (refine Below.trans ?_ (Below.mono hb1 (by first | omega | (simp; done) | (simp; omega)))) | (refine Below.trans ?_ (Below.mono hb2 (by first | omega | (simp; done) | (simp; omega)))) | (refine Below.trans ?_ (Below.mono hb3 (by first | omega | (simp; done) | (simp; omega)))) | (refine Below.trans ?_ (Below.mono hb4 (by first | omega | (simp; done) | (simp; omega)))) | (refine Below.trans ?_ (Below.mono hb5 (by first | omega | (simp; done) | (simp; omega)))) | (refine Below.trans ?_ (Below.mono hb6 (by first | omega | (simp; done) | (simp; omega)))) | (refine Below.trans ?_ (Below.mono hb7 (by first | omega | (simp; done) | (simp; omega)))) | (refine Below.trans ?_ (Below.mono hb8 (by first | omega | (simp; done) | (simp; omega)))) | (refine Below.trans ?_ (Below.mono hb9 (by first | omega | (simp; done) | (simp; omega)))) | (refine Below.trans ?_ (Below.mono hb10 (by first | omega | (simp; done) | (simp; omega)))) | (refine Below.trans ?_ (Below.mono hb11 (by first | omega | (simp; done) | (simp; omega)))) | (refine Below.trans ?_ (Below.mono hb12 (by first | omega | (simp; done) | (simp; omega))))))⟩
end Go.Proofs.Ytbkddgeocmkegaa
