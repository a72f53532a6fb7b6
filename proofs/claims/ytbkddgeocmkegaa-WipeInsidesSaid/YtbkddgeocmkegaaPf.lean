/- Lemmas on the way to this seat's statements; they bear no condition of their own. -/
import Derived.Test.YtbkddgeocmkegaaG10
/-! How long fields are, and whose a place is: plain laws. -/
namespace Go.Proofs.Ytbkddgeocmkegaa

theorem Pl.starts_lt (P : Pl) {a b : Nat} (h : a < b) (hb : b < P.starts.length) : P.starts[a] < P.starts[b] := by
  have hp : P.starts.Pairwise (· < ·) := List.Pairwise.filter _ List.pairwise_lt_range
  exact List.pairwise_iff_getElem.1 hp a b (by omega) hb h
theorem Pl.starts_le (P : Pl) {a b : Nat} (h : a ≤ b) (hb : b < P.starts.length) : P.starts[a] ≤ P.starts[b] := by
  rcases Nat.lt_or_ge a b with h1 | h1
  · exact Nat.le_of_lt (P.starts_lt h1 hb)
  · have : a = b := by omega
    subst this; exact Nat.le_refl _
theorem Pl.starts_ix (P : Pl) {m : Nat} (hm : m < P.cells.length) (hs : P.isSt m = true) : ∃ (c : Nat) (hc : c < P.starts.length), P.starts[c] = m := by
  have := P.starts_at hm hs
  obtain ⟨hc, e⟩ := List.getElem?_eq_some_iff.1 this
  exact ⟨_, hc, e⟩
/-- Between one attribute and the next there is none. -/
theorem Pl.starts_gap (P : Pl) {i m : Nat} (hi : i < P.starts.length) (h1 : P.starts[i] < m) (hm : m < P.cells.length) (h2 : ∀ (h : i + 1 < P.starts.length), m < P.starts[i + 1]) : P.isSt m = false := by
  cases hs : P.isSt m
  · rfl
  · obtain ⟨c, hc, e⟩ := P.starts_ix hm hs
    exfalso
    have c1 : i < c := by
      rcases Nat.lt_or_ge i c with h | h
      · exact h
      · have := P.starts_le h hi; omega
    have := P.starts_le (show i + 1 ≤ c by omega) hc
    have := h2 (by omega)
    omega
theorem Pl.starts_first (P : Pl) {m : Nat} (h0 : 0 < P.starts.length) (h1 : m < P.starts[0]) (hm : m < P.cells.length) : P.isSt m = false := by
  cases hs : P.isSt m
  · rfl
  · obtain ⟨c, hc, e⟩ := P.starts_ix hm hs
    have := P.starts_le (Nat.zero_le c) hc
    omega

theorem Pl.stp_one (P : Pl) (s i : Nat) : P.stp (((s : Int) + 1) % (P.cells.length : Int)) 1 i = P.isSt ((s + 1 + i) % P.cells.length) := by
  unfold Pl.stp Pl.isSt
  rw [Int.mul_one, Int.emod_add_emod]
  congr 2
  all_goals push_cast; rfl
theorem Pl.len_eq {P : Pl} (hok : P.ok) {s k : Nat} (hs : s < P.cells.length) (hk : k < P.cells.length) (hp : P.isSt ((s + 1 + k) % P.cells.length) = true) (hf : ∀ j, j < k → P.isSt ((s + 1 + j) % P.cells.length) = false) : (P.fld (s : Int)).len = (k : Int) := by
  have hn := Pl.N_pos hok
  have e : P.after (s : Int) = (((s + 1 + k) % P.cells.length : Nat) : Int) := by
    unfold Pl.after
    rw [if_pos ⟨by omega, by omega⟩]
    rw [Pl.look_some (k := k) (Int.emod_nonneg _ (by omega)) (Int.emod_lt_of_pos _ (by omega)) hk (by rw [Pl.stp_one]; exact hp) (fun j hj => by rw [Pl.stp_one]; exact hf j hj)]
    rw [Int.mul_one, Int.emod_add_emod]
    push_cast
    rfl
  unfold Pl.fld
  show (if P.after s - s - 1 < 0 then _ else _) = _
  rw [e]
  rcases Nat.lt_or_ge (s + 1 + k) P.cells.length with h | h
  · rw [Nat.mod_eq_of_lt h, if_neg (by omega)]; omega
  · have : (s + 1 + k) % P.cells.length = s + 1 + k - P.cells.length := by
      rw [Nat.mod_eq_sub_mod h, Nat.mod_eq_of_lt (by omega)]
    rw [this, if_pos (by omega)]; omega
theorem Pl.len_spec {P : Pl} (hok : P.ok) {s : Nat} (hs : s < P.cells.length) (hst : P.isSt s = true) : ∃ k, k < P.cells.length ∧ (P.fld (s : Int)).len = (k : Int) ∧ P.isSt ((s + 1 + k) % P.cells.length) = true ∧ ∀ j, j < k → P.isSt ((s + 1 + j) % P.cells.length) = false := by
  cases h : srch P.cells.length (fun j => P.isSt ((s + 1 + j) % P.cells.length)) with
  | some k =>
    obtain ⟨h1, h2, h3⟩ := srch_of_some h
    exact ⟨k, h1, Pl.len_eq hok hs h1 h2 h3, h2, h3⟩
  | none =>
    have := srch_of_none h (P.cells.length - 1) (by omega)
    rw [show s + 1 + (P.cells.length - 1) = s + P.cells.length by omega, Nat.add_mod_right, Nat.mod_eq_of_lt hs, hst] at this
    cases this
/-- As the document's list of attributes has it. -/
theorem Pl.ref_len {P : Pl} (hok : P.ok) {i : Nat} (hi : i < P.starts.length) : (P.fld (P.starts[i] : Int)).len = (if h : i + 1 < P.starts.length then (P.starts[i + 1] : Int) else (P.starts[0] : Int) + (P.cells.length : Int)) - (P.starts[i] : Int) - 1 := by
  have m := P.starts_mem (List.getElem_mem hi)
  split
  · rename_i h
    have m1 := P.starts_mem (List.getElem_mem h)
    have lt := P.starts_lt (show i < i + 1 by omega) h
    rw [Pl.len_eq hok (k := P.starts[i + 1] - P.starts[i] - 1) m.1 (by omega)]
    · omega
    · rw [show P.starts[i] + 1 + (P.starts[i + 1] - P.starts[i] - 1) = P.starts[i + 1] by omega, Nat.mod_eq_of_lt m1.1]; exact m1.2
    · intro j hj
      rw [Nat.mod_eq_of_lt (by omega)]
      exact P.starts_gap hi (by omega) (by omega) (fun _ => by omega)
  · rename_i h
    have le := P.starts_le (Nat.zero_le i) hi
    have m0 := P.starts_mem (List.getElem_mem (show 0 < P.starts.length by omega))
    rw [Pl.len_eq hok (k := P.starts[0] + P.cells.length - P.starts[i] - 1) m.1 (by omega)]
    · omega
    · rw [show P.starts[i] + 1 + (P.starts[0] + P.cells.length - P.starts[i] - 1) = P.starts[0] + P.cells.length by omega, Nat.add_mod_right, Nat.mod_eq_of_lt m0.1]; exact m0.2
    · intro j hj
      rcases Nat.lt_or_ge (P.starts[i] + 1 + j) P.cells.length with g | g
      · rw [Nat.mod_eq_of_lt g]
        exact P.starts_gap hi (by omega) g (fun h' => absurd h' h)
      · rw [Nat.mod_eq_sub_mod g, Nat.mod_eq_of_lt (by omega)]
        exact P.starts_first (by omega) (by omega) (by omega)

/-- The places of a field: its attribute's, and those behind it. -/
def Pl.ofs (P : Pl) (s : Nat) (at' : Int) : Prop := ∃ i : Nat, (i : Int) ≤ (P.fld (s : Int)).len ∧ at' = (((s + i) % P.cells.length : Nat) : Int)
theorem back_nat (a j n : Nat) (hj : j ≤ a + n) : (((a : Int) + (j : Int) * -1) % (n : Int)) = (((a + n - j) % n : Nat) : Int) := by
  rw [Int.natCast_emod, Int.natCast_sub hj]
  push_cast
  rw [show (a : Int) + (n : Int) - (j : Int) = (a : Int) + (j : Int) * -1 + (n : Int) by omega, Int.add_emod_right]
theorem Pl.stp_back {P : Pl} (hok : P.ok) (a j : Nat) (hj : j ≤ a + P.cells.length) : P.stp (a : Int) (-1) j = P.isSt ((a + P.cells.length - j) % P.cells.length) := by
  have hn := Pl.N_pos hok
  unfold Pl.stp Pl.isSt
  rw [back_nat _ _ _ hj]
theorem Pl.before_of {P : Pl} (hok : P.ok) {s : Nat} (hs : s < P.cells.length) (hst : P.isSt s = true) {at' : Int} (h : P.ofs s at') : P.before at' = (s : Int) := by
  have hn := Pl.N_pos hok
  obtain ⟨i, hi, rfl⟩ := h
  obtain ⟨k, hk, e, -, hf⟩ := Pl.len_spec hok hs hst
  rw [e] at hi
  have hik : i ≤ k := by omega
  unfold Pl.before
  have hlt : (s + i) % P.cells.length < P.cells.length := Nat.mod_lt _ hn
  have key : ∀ j, j ≤ i → ((s + i) % P.cells.length + P.cells.length - j) % P.cells.length = (s + (i - j)) % P.cells.length := by
    intro j hj
    rcases Nat.lt_or_ge (s + i) P.cells.length with g | g
    · rw [Nat.mod_eq_of_lt g, show s + i + P.cells.length - j = s + (i - j) + P.cells.length by omega, Nat.add_mod_right]
    · have : (s + i) % P.cells.length = s + i - P.cells.length := by rw [Nat.mod_eq_sub_mod g, Nat.mod_eq_of_lt (by omega)]
      rw [this, show s + i - P.cells.length + P.cells.length - j = s + (i - j) by omega]
  rw [Pl.look_some (k := i) (by omega) (by omega) (by omega)]
  · have := key i (Nat.le_refl _)
    rw [Nat.sub_self, Nat.add_zero, Nat.mod_eq_of_lt hs] at this
    rw [back_nat _ _ _ (by omega), this]
  · rw [Pl.stp_back hok _ _ (by omega), key i (Nat.le_refl _), Nat.sub_self, Nat.add_zero, Nat.mod_eq_of_lt hs]; exact hst
  · intro j hj
    rw [Pl.stp_back hok _ _ (by omega), key j (by omega), show s + (i - j) = s + 1 + (i - j - 1) by omega]
    exact hf _ (by omega)
theorem Pl.ofs_of {P : Pl} (hok : P.ok) {s : Nat} {at' : Int} (h : P.before at' = (s : Int)) : s < P.cells.length ∧ P.isSt s = true ∧ P.ofs s at' := by
  have hn := Pl.N_pos hok
  unfold Pl.before at h
  by_cases hr : 0 ≤ at' ∧ at' < (P.cells.length : Int)
  · obtain ⟨a, rfl⟩ : ∃ a : Nat, at' = (a : Int) := ⟨at'.toNat, by omega⟩
    have ha : a < P.cells.length := by omega
    unfold Pl.look at h
    rw [if_pos hr] at h
    split at h
    · rename_i k hk
      obtain ⟨h1, h2, h3⟩ := srch_of_some hk
      rw [back_nat _ _ _ (by omega)] at h
      have hs : s = (a + P.cells.length - k) % P.cells.length := by omega
      have hslt : s < P.cells.length := hs ▸ Nat.mod_lt _ hn
      rw [Pl.stp_back hok _ _ (by omega), ← hs] at h2
      have ea : (s + k) % P.cells.length = a := by
        rw [hs]
        rcases Nat.lt_or_ge a k with g | g
        · rw [Nat.mod_eq_of_lt (show a + P.cells.length - k < P.cells.length by omega), show a + P.cells.length - k + k = a + P.cells.length by omega, Nat.add_mod_right, Nat.mod_eq_of_lt ha]
        · rw [show a + P.cells.length - k = a - k + P.cells.length by omega, Nat.add_mod_right, Nat.mod_eq_of_lt (show a - k < P.cells.length by omega), show a - k + k = a by omega, Nat.mod_eq_of_lt ha]
      refine ⟨hslt, h2, k, ?_, by rw [ea]⟩
      obtain ⟨l, hl, e, hp, -⟩ := Pl.len_spec hok hslt h2
      rw [e]
      rcases Nat.lt_or_ge l k with g | g
      · exfalso
        have := h3 (k - 1 - l) (by omega)
        rw [Pl.stp_back hok _ _ (by omega)] at this
        rw [show (a + P.cells.length - (k - 1 - l)) % P.cells.length = (s + 1 + l) % P.cells.length from ?_] at this
        · rw [hp] at this; cases this
        · rw [← ea]
          rcases Nat.lt_or_ge (s + k) P.cells.length with g2 | g2
          · rw [Nat.mod_eq_of_lt g2, show s + k + P.cells.length - (k - 1 - l) = s + 1 + l + P.cells.length by omega, Nat.add_mod_right]
          · have : (s + k) % P.cells.length = s + k - P.cells.length := by rw [Nat.mod_eq_sub_mod g2, Nat.mod_eq_of_lt (by omega)]
            rw [this, show s + k - P.cells.length + P.cells.length - (k - 1 - l) = s + 1 + l by omega]
      · omega
    · omega
  · unfold Pl.look at h
    rw [if_neg hr] at h
    omega
theorem Pl.before_none {P : Pl} (hok : P.ok) {at' : Int} (h : ∀ s, s < P.cells.length → P.isSt s = true → ¬ P.ofs s at') : ¬ 0 ≤ P.before at' := by
  intro h0
  obtain ⟨s, hs⟩ : ∃ s : Nat, P.before at' = (s : Int) := ⟨(P.before at').toNat, by omega⟩
  obtain ⟨a, b, c⟩ := Pl.ofs_of hok hs
  exact h s a b c
end Go.Proofs.Ytbkddgeocmkegaa
