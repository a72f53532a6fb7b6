/- Lemmas on the way to this seat's statements; they bear no condition of their own. -/
import Derived.Test.YtbkddgeocmkegaaW8
import Derived.Test.YtbkddgeocmkegaaW7
import Derived.Test.YtbkddgeocmkegaaPy
namespace Go.Proofs.Ytbkddgeocmkegaa
open Go.RowKit Go.Shelf
set_option linter.unusedSimpArgs false
set_option linter.unusedVariables false
set_option maxHeartbeats 4000000
attribute [local go_sem ↓] run_start run_byte run_cols run_neq_cell run_eql_cell run_eql_size

theorem Len_eq {w : World} {g b cap : Nat} {P : Pl} (h : PL w g b cap P) :
    Calls Try.prog 25 #[.pointer (some ⟨g, 0, none⟩)] w fun e w' => e = .returned (.int .i64 (P.cells.length : Int)) ∧ w = w' := by
  have f2 := h.f2
  go_enter Try.func25, Try.ntmps25
  go_wp2
  go_ret
  exact ⟨rfl, rfl⟩

theorem Len_sm {w : World} {g b cap : Nat} {P : Pl} (h : PL w g b cap P) :
    Calls Try.prog 25 #[.pointer (some ⟨g, 0, none⟩)] w fun e w' => e = .returned (.int .i64 (P.cells.length : Int)) ∧ w' = w :=
  (Len_eq h).mono fun _ _ h => ⟨h.1, h.2.symm⟩

/-- What letting the rest of a field go leaves, of a place in a field. -/
def RestPost (P : Pl) (g b cap : Nat) (s t : Int) (w : World) (e : Ending) (w' : World) : Prop :=
  ∃ (R : Pl) (m : Int), e = .returned (.tuple #[.int .i64 m, .bool (P.openAt t)]) ∧ PL w' g b cap R ∧ Chg (· = b) w w' ∧
    (P.openAt t = true → m = (P.fld s).len + 1 - dst (P.cells.length : Int) s t) ∧
    ∀ i, 0 ≤ i → i < (P.cells.length : Int) →
      (P.openAt t = true → mineB P s i = true → dst (P.cells.length : Int) s t ≤ dst (P.cells.length : Int) s i → R.at i = Cell.zero) ∧
      (P.openAt t = false ∨ (¬ (mineB P s i = true ∧ dst (P.cells.length : Int) s t ≤ dst (P.cells.length : Int) s i) ∧ i ≠ s) → R.at i = P.at i)
theorem Rest_P {w : World} {g b cap : Nat} {P : Pl} (h : PL w g b cap P) {s : Nat} (hs : s < P.cells.length) (hst : P.isSt s = true) {t : Int} (ht : 0 ≤ t ∧ t < (P.cells.length : Int)) (hF : P.ofF t = P.fld (s : Int)) :
    Calls Try.prog 54 #[.pointer (some ⟨g, 0, none⟩), .int .i64 t] w (RestPost P g b cap (s : Int) t w) := by
  have hok := h.ok
  cases hop : P.openAt t
  · refine (Rest_shut h t hop).mono ?_
    rintro e w' ⟨rfl, hb⟩
    exact ⟨P, 0, by rw [hop], h.below hb, Chg.of_below hb, (fun e => by rw [hop] at e; cases e), fun i h0 h1 => ⟨(fun e => by rw [hop] at e; cases e), fun _ => rfl⟩⟩
  · obtain ⟨k0, e0, hk0, hdist, hsame, hbef⟩ := rest_facts hok hs hst ht hF hop
    have hB := st_ofB hok hs hst ht
    have hs' : (0 : Int) ≤ (P.fld (s : Int)).start ∧ (P.fld (s : Int)).start < (P.cells.length : Int) := ⟨by show (0 : Int) ≤ (s : Int); omega, by show (s : Int) < _; omega⟩
    have hl := fld_len hok hs hst
    have hlen := placesN_eq hs' hl
    refine (Rest_list h t hop hB _ (Lib.hid hF) hs'.1 hs'.2 _ (Lib.hid rfl) k0 hk0 (Lib.hid hdist) (Lib.hid hbef)).mono ?_
    rintro e w' ⟨rfl, hP, hk⟩
    refine ⟨_, _, by rw [hop], hP, hk, fun _ => by omega, fun i h0 h1 => ?_⟩
    have hm := mine_iff hok hs hst (i := i) ⟨h0, h1⟩
    refine ⟨fun _ h2 h3 => ?_, fun h2 => ?_⟩
    · have h4 := hm.1 h2
      have his : i ≠ (s : Int) := by
        unfold mineB at h2
        rw [Bool.and_eq_true, bne_iff_ne] at h2
        exact h2.2
      show ((P.clr _).mark (s : Int) true).at i = _
      rw [rest_at hok hs hst k0 ⟨h0, h1⟩ his, if_pos ⟨by omega, h4.2⟩]
    · rcases h2 with h2 | ⟨h2, h3⟩
      · rw [hop] at h2; cases h2
      · show ((P.clr _).mark (s : Int) true).at i = _
        rw [rest_at hok hs hst k0 ⟨h0, h1⟩ h3, if_neg (fun h4 => h2 ⟨hm.2 ⟨by omega, h4.2⟩, by omega⟩)]

theorem Inside_P {w : World} {g b cap : Nat} {P : Pl} (h : PL w g b cap P) {s : Nat} (hs : s < P.cells.length) (hst : P.isSt s = true) :
    Calls Try.prog 53 #[.pointer (some ⟨g, 0, none⟩), .agg #[.int .i64 (P.fld (s : Int)).start, .int .i64 (P.fld (s : Int)).len, .int .u8 (P.fld (s : Int)).attr]] w fun e w' => e = .returned (.int .i64 (P.fld (s : Int)).len) ∧ PL w' g b cap (P.clr (places (P.cells.length : Int) (P.fld (s : Int)))) ∧ Chg (· = b) w w' := by
  have hs' : (0 : Int) ≤ (P.fld (s : Int)).start ∧ (P.fld (s : Int)).start < (P.cells.length : Int) := ⟨by show (0 : Int) ≤ (s : Int); omega, by show (s : Int) < _; omega⟩
  have hlen := placesN_eq hs' (fld_len h.ok hs hst)
  refine (Inside_list h (P.fld (s : Int)) hs'.1 hs'.2 _ (Lib.hid rfl)).mono ?_
  rintro e w' ⟨rfl, hP, hk⟩
  exact ⟨by rw [hlen], hP, hk⟩
end Go.Proofs.Ytbkddgeocmkegaa
