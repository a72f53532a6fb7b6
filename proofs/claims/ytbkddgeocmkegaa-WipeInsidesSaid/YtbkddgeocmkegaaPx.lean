/- Lemmas on the way to this seat's statements; they bear no condition of their own. -/
import Derived.Test.YtbkddgeocmkegaaPw
import Derived.Test.YtbkddgeocmkegaaW4
/-! What the rest of a field is: plain laws. -/
namespace Go.Proofs.Ytbkddgeocmkegaa
set_option linter.unusedVariables false

/-- How far a place lies behind a field's attribute. -/
def dst (n s i : Int) : Int := (i - s + n) % n
theorem dst_range {n s i : Int} (hn : 0 < n) : 0 ≤ dst n s i ∧ dst n s i < n := ⟨Int.emod_nonneg _ (by omega), Int.emod_lt_of_pos _ hn⟩
theorem dst_cases {n s i : Int} (hs : 0 ≤ s ∧ s < n) (hi : 0 ≤ i ∧ i < n) : dst n s i = if s ≤ i then i - s else i - s + n := by
  unfold dst
  split
  · rw [Int.add_emod_right, Int.emod_eq_of_lt (by omega) (by omega)]
  · rw [Int.emod_eq_of_lt (by omega) (by omega)]
theorem dst_back {n s i : Int} (hs : 0 ≤ s ∧ s < n) (hi : 0 ≤ i ∧ i < n) : (s + dst n s i) % n = i := by
  rw [dst_cases hs hi]
  split
  · rw [show s + (i - s) = i by omega, Int.emod_eq_of_lt hi.1 hi.2]
  · rw [show s + (i - s + n) = i + n by omega, Int.add_emod_right, Int.emod_eq_of_lt hi.1 hi.2]
theorem dst_of {n s k : Int} (hs : 0 ≤ s ∧ s < n) (hk : 0 ≤ k ∧ k < n) : dst n s ((s + k) % n) = k := by
  have hn : 0 < n := by omega
  rw [dst_cases hs ⟨Int.emod_nonneg _ (by omega), Int.emod_lt_of_pos _ hn⟩]
  by_cases h : s + k < n
  · rw [Int.emod_eq_of_lt (by omega) h]
    split <;> omega
  · have : (s + k) % n = s + k - n := by rw [← Int.sub_emod_right, Int.emod_eq_of_lt (by omega) (by omega)]
    rw [this]
    split <;> omega
theorem dst_self {n s : Int} (hs : 0 ≤ s ∧ s < n) : dst n s s = 0 := by rw [dst_cases hs hs]; split <;> omega
theorem dst_zero {n s i : Int} (hs : 0 ≤ s ∧ s < n) (hi : 0 ≤ i ∧ i < n) (h : dst n s i = 0) : i = s := by
  have := dst_back hs hi
  rw [h, Int.add_zero, Int.emod_eq_of_lt hs.1 hs.2] at this
  exact this.symm

/-- A field that is there: how long its row of places is. -/
theorem placesN_eq {n : Int} {f : Fld} (hs : 0 ≤ f.start ∧ f.start < n) (hl : 0 ≤ f.len ∧ f.len < n) : ((places n f).length : Int) = f.len := by
  rw [places_len]
  unfold placesN
  rw [if_pos hs]
  omega
theorem places_dst {n : Int} {f : Fld} (hs : 0 ≤ f.start ∧ f.start < n) (hl : 0 ≤ f.len ∧ f.len < n) (k : Nat) (hk : k < (places n f).length) : dst n f.start (places n f)[k] = (k : Int) + 1 := by
  have := placesN_eq hs hl
  rw [places_get]
  exact dst_of hs ⟨by omega, by omega⟩
theorem places_drop_mem {n : Int} {f : Fld} (hs : 0 ≤ f.start ∧ f.start < n) (hl : 0 ≤ f.len ∧ f.len < n) (k : Nat) {i : Int} (hi : 0 ≤ i ∧ i < n) : i ∈ (places n f).drop k ↔ (k : Int) + 1 ≤ dst n f.start i ∧ dst n f.start i ≤ f.len := by
  have hlen := placesN_eq hs hl
  constructor
  · intro h
    obtain ⟨j, hj, e⟩ := List.getElem_of_mem h
    rw [List.length_drop] at hj
    rw [List.getElem_drop] at e
    have := places_dst hs hl (k + j) (by omega)
    rw [e] at this
    omega
  · rintro ⟨h1, h2⟩
    obtain ⟨m, hm⟩ : ∃ m : Nat, dst n f.start i = (m : Int) + 1 := ⟨(dst n f.start i - 1).toNat, by omega⟩
    have hmk : m < (places n f).length := by omega
    have e : (places n f)[m] = i := by
      rw [places_get, ← hm]
      exact dst_back hs hi
    rw [← e, show (places n f)[m] = ((places n f).drop k)[m - k]'(by rw [List.length_drop]; omega) by rw [List.getElem_drop]; congr 1; omega]
    exact List.getElem_mem _
theorem places_mem {n : Int} {f : Fld} (hs : 0 ≤ f.start ∧ f.start < n) (hl : 0 ≤ f.len ∧ f.len < n) {i : Int} (hi : 0 ≤ i ∧ i < n) : i ∈ places n f ↔ 1 ≤ dst n f.start i ∧ dst n f.start i ≤ f.len := by
  have := places_drop_mem hs hl 0 hi
  rw [List.drop_zero] at this
  simpa using this

/-- Whose a place is. -/
theorem ofF_fld {P : Pl} (hok : P.ok) {i : Int} (hB : P.ofB i = true) : ∃ s : Nat, s < P.cells.length ∧ P.isSt s = true ∧ P.ofF i = P.fld (s : Int) ∧ P.before i = (s : Int) ∧ P.ofs s i := by
  have h0 : 0 ≤ P.before i := of_decide_eq_true hB
  obtain ⟨s, hs⟩ : ∃ s : Nat, P.before i = (s : Int) := ⟨(P.before i).toNat, by omega⟩
  obtain ⟨h1, h2, h3⟩ := Pl.ofs_of hok hs
  exact ⟨s, h1, h2, by unfold Pl.ofF; rw [if_pos h0, hs], hs, h3⟩
theorem ofs_dst {P : Pl} (hok : P.ok) {s : Nat} (hs : s < P.cells.length) (hst : P.isSt s = true) {i : Int} (hi : 0 ≤ i ∧ i < (P.cells.length : Int)) : P.ofs s i ↔ dst (P.cells.length : Int) (s : Int) i ≤ (P.fld (s : Int)).len := by
  obtain ⟨l, hl, el, -, -⟩ := Pl.len_spec hok hs hst
  have hs' : (0 : Int) ≤ (s : Int) ∧ (s : Int) < (P.cells.length : Int) := ⟨by omega, by omega⟩
  rw [el]
  constructor
  · rintro ⟨k, hk, e⟩
    rw [el] at hk
    have : i = ((s : Int) + (k : Int)) % (P.cells.length : Int) := by rw [e]; push_cast; rfl
    rw [this, dst_of hs' ⟨by omega, by omega⟩]
    exact hk
  · intro h
    have hr := dst_range (s := (s : Int)) (i := i) (show 0 < (P.cells.length : Int) by omega)
    refine ⟨(dst (P.cells.length : Int) (s : Int) i).toNat, by rw [el]; omega, ?_⟩
    have := dst_back hs' hi
    push_cast
    rw [Int.toNat_of_nonneg hr.1]
    exact this.symm
end Go.Proofs.Ytbkddgeocmkegaa
