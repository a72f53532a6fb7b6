/- Lemmas on the way to this seat's statements; they bear no condition of their own. -/
import Derived.Test.YtbkddgeocmkegaaPx
/-! What is let go of a field: plain laws. -/
namespace Go.Proofs.Ytbkddgeocmkegaa
set_option linter.unusedVariables false

theorem st_ofB {P : Pl} (hok : P.ok) {s : Nat} (hs : s < P.cells.length) (hst : P.isSt s = true) {i : Int} (hi : 0 ≤ i ∧ i < (P.cells.length : Int)) : P.ofB i = true := by
  have hn := Pl.N_pos hok
  obtain ⟨a, rfl⟩ : ∃ a : Nat, i = (a : Int) := ⟨i.toNat, by omega⟩
  have ha : a < P.cells.length := by omega
  unfold Pl.ofB
  refine decide_eq_true ?_
  unfold Pl.before Pl.look
  rw [if_pos hi]
  split
  · exact Int.emod_nonneg _ (by omega)
  · rename_i h
    exfalso
    have hr := dst_range (s := (s : Int)) (i := (a : Int)) (show 0 < (P.cells.length : Int) by omega)
    have hc := dst_cases (n := (P.cells.length : Int)) (s := (s : Int)) (i := (a : Int)) ⟨by omega, by omega⟩ hi
    have := srch_of_none h (dst (P.cells.length : Int) (s : Int) (a : Int)).toNat (by omega)
    rw [Pl.stp_back hok _ _ (by omega)] at this
    have e : (a + P.cells.length - (dst (P.cells.length : Int) (s : Int) (a : Int)).toNat) % P.cells.length = s := by
      by_cases h2 : (s : Int) ≤ (a : Int)
      · rw [if_pos h2] at hc
        rw [show a + P.cells.length - (dst (P.cells.length : Int) (s : Int) (a : Int)).toNat = s + P.cells.length by omega, Nat.add_mod_right, Nat.mod_eq_of_lt hs]
      · rw [if_neg h2] at hc
        rw [show a + P.cells.length - (dst (P.cells.length : Int) (s : Int) (a : Int)).toNat = s by omega, Nat.mod_eq_of_lt hs]
    rw [e, hst] at this
    cases this
theorem own_iff {P : Pl} (hok : P.ok) {s : Nat} (hs : s < P.cells.length) (hst : P.isSt s = true) {i : Int} (hi : 0 ≤ i ∧ i < (P.cells.length : Int)) : (P.ofF i).start = (s : Int) ↔ dst (P.cells.length : Int) (s : Int) i ≤ (P.fld (s : Int)).len := by
  have hB := st_ofB hok hs hst hi
  obtain ⟨t, ht, htst, hF, hbef, hof⟩ := ofF_fld hok hB
  rw [← ofs_dst hok hs hst hi, hF]
  constructor
  · intro h
    have : t = s := by have : (t : Int) = (s : Int) := h; omega
    rw [← this]; exact hof
  · intro h
    have := Pl.before_of hok hs hst h
    show (t : Int) = (s : Int)
    omega
/-- Is a place the field's, and not its attribute's? -/
def mineB (P : Pl) (s i : Int) : Bool := (P.ofF i).start == s && i != s
theorem mine_iff {P : Pl} (hok : P.ok) {s : Nat} (hs : s < P.cells.length) (hst : P.isSt s = true) {i : Int} (hi : 0 ≤ i ∧ i < (P.cells.length : Int)) : mineB P (s : Int) i = true ↔ 1 ≤ dst (P.cells.length : Int) (s : Int) i ∧ dst (P.cells.length : Int) (s : Int) i ≤ (P.fld (s : Int)).len := by
  have hs' : (0 : Int) ≤ (s : Int) ∧ (s : Int) < (P.cells.length : Int) := ⟨by omega, by omega⟩
  have hr := dst_range (s := (s : Int)) (i := i) (show 0 < (P.cells.length : Int) by omega)
  unfold mineB
  rw [Bool.and_eq_true, beq_iff_eq, own_iff hok hs hst hi, bne_iff_ne]
  constructor
  · rintro ⟨h1, h2⟩
    refine ⟨?_, h1⟩
    rcases (show dst (P.cells.length : Int) (s : Int) i < 1 ∨ 1 ≤ dst (P.cells.length : Int) (s : Int) i by omega) with h | h
    · exact absurd (dst_zero hs' hi (by omega)) h2
    · exact h
  · rintro ⟨h1, h2⟩
    refine ⟨h2, fun e => ?_⟩
    rw [e, dst_self hs'] at h1
    omega
theorem fld_len {P : Pl} (hok : P.ok) {s : Nat} (hs : s < P.cells.length) (hst : P.isSt s = true) : 0 ≤ (P.fld (s : Int)).len ∧ (P.fld (s : Int)).len < (P.cells.length : Int) := by
  obtain ⟨l, hl, el, -, -⟩ := Pl.len_spec hok hs hst
  rw [el]; omega
theorem inside_at {P : Pl} (hok : P.ok) {s : Nat} (hs : s < P.cells.length) (hst : P.isSt s = true) {i : Int} (hi : 0 ≤ i ∧ i < (P.cells.length : Int)) : (P.clr (places (P.cells.length : Int) (P.fld (s : Int)))).at i = if mineB P (s : Int) i then Cell.zero else P.at i := by
  have hs' : (0 : Int) ≤ (P.fld (s : Int)).start ∧ (P.fld (s : Int)).start < (P.cells.length : Int) := ⟨by show (0 : Int) ≤ (s : Int); omega, by show (s : Int) < _; omega⟩
  rw [clr_at P _ (places_range (by omega) _)]
  have h1 := places_mem hs' (fld_len hok hs hst) hi
  have h2 := mine_iff hok hs hst hi
  by_cases h : i ∈ places (P.cells.length : Int) (P.fld (s : Int))
  · rw [if_pos h, if_pos (h2.2 (h1.1 h))]
  · rw [if_neg h, if_neg (fun e => h (h1.2 (h2.1 e)))]

/-- What an open place's field needs. -/
theorem rest_facts {P : Pl} (hok : P.ok) {s : Nat} (hs : s < P.cells.length) (hst : P.isSt s = true) {a : Int} (ha : 0 ≤ a ∧ a < (P.cells.length : Int)) (hF : P.ofF a = P.fld (s : Int)) (hop : P.openAt a = true) :
    ∃ k0 : Nat, (k0 : Int) + 1 = dst (P.cells.length : Int) (s : Int) a ∧ k0 < (places (P.cells.length : Int) (P.fld (s : Int))).length ∧
      (∀ (j : Nat) (hj : j < (places (P.cells.length : Int) (P.fld (s : Int))).length), (places (P.cells.length : Int) (P.fld (s : Int)))[j] = a ↔ j = k0) ∧
      SameSt P (P.clr ((places (P.cells.length : Int) (P.fld (s : Int))).drop k0)) ∧ (P.clr ((places (P.cells.length : Int) (P.fld (s : Int))).drop k0)).before a = (s : Int) := by
  have hs' : (0 : Int) ≤ (P.fld (s : Int)).start ∧ (P.fld (s : Int)).start < (P.cells.length : Int) := ⟨by show (0 : Int) ≤ (s : Int); omega, by show (s : Int) < _; omega⟩
  have hl := fld_len hok hs hst
  have hB := st_ofB hok hs hst ha
  have hown : mineB P (s : Int) a = true := by
    unfold mineB
    rw [hF]
    have h1 : a ≠ (s : Int) := by
      intro e
      have := st_shut hok a (by rw [e]; exact hst)
      rw [this] at hop; cases hop
    show ((s : Int) == (s : Int) && a != (s : Int)) = true
    simp [h1]
  have hd := (mine_iff hok hs hst ha).1 hown
  have hlen := placesN_eq hs' hl
  refine ⟨(dst (P.cells.length : Int) (s : Int) a - 1).toNat, by omega, by omega, fun j hj => ?_, ?_⟩
  · have h1 := places_dst hs' hl j hj
    constructor
    · intro e
      rw [e] at h1
      have : dst (P.cells.length : Int) (s : Int) a = (j : Int) + 1 := h1
      omega
    · intro e
      rw [places_get]
      have := dst_back (n := (P.cells.length : Int)) (s := (s : Int)) ⟨by omega, by omega⟩ ha
      show ((s : Int) + ((j : Int) + 1)) % _ = a
      rw [show (j : Int) + 1 = dst (P.cells.length : Int) (s : Int) a by omega]
      exact this
  · have hsf : SameF P (P.clr ((places (P.cells.length : Int) (P.fld (s : Int))).drop (dst (P.cells.length : Int) (s : Int) a - 1).toNat)) := by
      refine clr_sameF hok _ (fun x hx => ?_)
      have hxm := List.mem_of_mem_drop hx
      have hxr := places_range (by omega) _ x hxm
      refine ⟨hxr, ?_⟩
      have h1 := (places_mem hs' hl hxr).1 hxm
      cases hsx : (P.at x).start
      · rfl
      · exfalso
        have hm := (mine_iff hok hs hst hxr).2 h1
        unfold mineB at hm
        rw [Bool.and_eq_true, beq_iff_eq, bne_iff_ne] at hm
        obtain ⟨t, rfl⟩ : ∃ t : Nat, x = (t : Int) := ⟨x.toNat, by omega⟩
        obtain ⟨l, hl2, el, -, -⟩ := Pl.len_spec hok (show t < P.cells.length by omega) hsx
        have hb := Pl.before_of hok (show t < P.cells.length by omega) hsx (ofs_start P t (by omega) (t : Int) (by rw [el]; omega) rfl)
        have : (P.ofF (t : Int)).start = (t : Int) := by unfold Pl.ofF; rw [hb, if_pos (by omega)]; rfl
        omega
    refine ⟨hsf.st, ?_⟩
    rw [hsf.st.before]
    obtain ⟨t, -, -, hF2, hbef, -⟩ := ofF_fld hok hB
    rw [hF] at hF2
    have : (s : Int) = (t : Int) := congrArg Fld.start hF2
    omega
theorem rest_at {P : Pl} (hok : P.ok) {s : Nat} (hs : s < P.cells.length) (hst : P.isSt s = true) (k0 : Nat) {i : Int} (hi : 0 ≤ i ∧ i < (P.cells.length : Int)) (his : i ≠ (s : Int)) :
    ((P.clr ((places (P.cells.length : Int) (P.fld (s : Int))).drop k0)).mark (s : Int) true).at i = if (k0 : Int) + 1 ≤ dst (P.cells.length : Int) (s : Int) i ∧ dst (P.cells.length : Int) (s : Int) i ≤ (P.fld (s : Int)).len then Cell.zero else P.at i := by
  have hs' : (0 : Int) ≤ (P.fld (s : Int)).start ∧ (P.fld (s : Int)).start < (P.cells.length : Int) := ⟨by show (0 : Int) ≤ (s : Int); omega, by show (s : Int) < _; omega⟩
  have hl := fld_len hok hs hst
  have hlen := (clr_same P ((places (P.cells.length : Int) (P.fld (s : Int))).drop k0)).2.2.1
  rw [mark_at _ _ _ (by omega) (by rw [hlen]; omega), if_neg his, clr_at P _ (fun x hx => places_range (by omega) _ x (List.mem_of_mem_drop hx))]
  have h1 := places_drop_mem hs' hl k0 hi
  by_cases h : i ∈ (places (P.cells.length : Int) (P.fld (s : Int))).drop k0
  · rw [if_pos h]; exact (if_pos (h1.1 h)).symm
  · rw [if_neg h]; exact (if_neg (fun e => h (h1.2 e))).symm
end Go.Proofs.Ytbkddgeocmkegaa
