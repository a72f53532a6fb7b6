/- Lemmas on the way to this seat's statements; they bear no condition of their own. -/
import Derived.Test.YtbkddgeocmkegaaR6
/-! The next open field, and the one ahead: plain laws. -/
namespace Go.Proofs.Ytbkddgeocmkegaa

def bestUp (L : List Int) (a d : Int) (i : Nat) : Int := ((L.drop i).find? (fun x => decide (a ≤ x))).getD d
theorem bestUp_end (L : List Int) (a d : Int) : bestUp L a d L.length = d := by simp [bestUp]
theorem bestUp_step (L : List Int) (a d : Int) (i : Nat) (h : i < L.length) : bestUp L a d i = if a ≤ L[i] then L[i] else bestUp L a d (i + 1) := by
  unfold bestUp
  rw [List.drop_eq_getElem_cons h, List.find?_cons]
  by_cases e : a ≤ L[i]
  · rw [if_pos e]; simp [e]
  · rw [if_neg e]; simp [e]
def bestDn (L : List Int) (a d : Int) (i : Nat) : Int := ((L.take i).reverse.find? (fun x => decide (x ≤ a))).getD d
theorem bestDn_zero (L : List Int) (a d : Int) : bestDn L a d 0 = d := by simp [bestDn]
theorem bestDn_step (L : List Int) (a d : Int) (i : Nat) (h : i < L.length) : bestDn L a d (i + 1) = if L[i] ≤ a then L[i] else bestDn L a d i := by
  unfold bestDn
  rw [List.take_add_one, List.getElem?_eq_getElem h, List.reverse_append]
  show (List.find? _ (L[i] :: _)).getD d = _
  rw [List.find?_cons]
  by_cases e : L[i] ≤ a
  · rw [if_pos e]; simp [e]
  · rw [if_neg e]; simp [e]

theorem seek_up {n : Nat} {p : Int → Bool} {L : List Int} (hL : L.Pairwise (· < ·)) (hr : ∀ x ∈ L, 0 ≤ x ∧ x < (n : Int)) (hp : ∀ x, 0 ≤ x → x < (n : Int) → (p x = true ↔ x ∈ L)) {a : Int} (a0 : 0 ≤ a) (a1 : a < (n : Int)) (hne : 0 < L.length) :
    ∃ k, srch n (fun i => p ((a + (i : Int) * 1) % (n : Int))) = some k ∧ (a + (k : Int) * (1 : Int)) % (n : Int) = bestUp L a L[0] 0 := by
  have hlt : ∀ (i j : Nat) (hi : i < L.length) (hj : j < L.length), i < j → L[i] < L[j] := fun i j hi hj h => List.pairwise_iff_getElem.1 hL i j hi hj h
  have pf : ∀ x, 0 ≤ x → x < (n : Int) → x ∉ L → p x = false := fun x h0 h1 h => by
    cases hx : p x
    · rfl
    · exact absurd ((hp x h0 h1).1 hx) h
  unfold bestUp
  rw [List.drop_zero]
  cases hf : L.find? (fun x => decide (a ≤ x)) with
  | some b =>
    rw [List.find?_eq_some_iff_getElem] at hf
    obtain ⟨hb, i, hi, e, hj⟩ := hf
    have hab : a ≤ b := of_decide_eq_true hb
    have hbm : b ∈ L := e ▸ List.getElem_mem hi
    have hbr := hr b hbm
    have ek : (a + (((b - a).toNat : Nat) : Int) * 1) % (n : Int) = b := by rw [show a + (((b - a).toNat : Nat) : Int) * 1 = b by omega, Int.emod_eq_of_lt hbr.1 hbr.2]
    refine ⟨(b - a).toNat, srch_some (by omega) ?_ ?_, by rw [ek]; rfl⟩
    · show p _ = true
      rw [ek]
      exact (hp b hbr.1 hbr.2).2 hbm
    · intro j hjk
      show p _ = false
      rw [Int.emod_eq_of_lt (by omega) (by omega)]
      refine pf _ (by omega) (by omega) (fun hm => ?_)
      obtain ⟨m, hm', em⟩ := List.getElem_of_mem hm
      rcases Nat.lt_or_ge m i with g | g
      · have := hj m g
        simp at this
        omega
      · rcases Nat.lt_or_ge i m with g2 | g2
        · have := hlt i m hi hm' g2; omega
        · have : m = i := by omega
          subst this; omega
  | none =>
    rw [List.find?_eq_none] at hf
    have hall : ∀ x ∈ L, x < a := fun x hx => by have := hf x hx; simp at this; omega
    have hbm : L[0] ∈ L := List.getElem_mem hne
    have hbr := hr _ hbm
    have hba := hall _ hbm
    show ∃ k, _ ∧ _ = L[0]
    obtain ⟨b, hb⟩ : ∃ b, L[0] = b := ⟨_, rfl⟩
    rw [hb] at hbm hbr hba ⊢
    have ek : (a + (((b + n - a).toNat : Nat) : Int) * 1) % (n : Int) = b := by rw [show a + (((b + n - a).toNat : Nat) : Int) * 1 = b + n by omega, Int.add_emod_right, Int.emod_eq_of_lt hbr.1 hbr.2]
    refine ⟨(b + n - a).toNat, srch_some (by omega) ?_ ?_, ek⟩
    · show p _ = true
      rw [ek]
      exact (hp b hbr.1 hbr.2).2 hbm
    · intro j hjk
      show p _ = false
      by_cases g : a + (j : Int) < (n : Int)
      · rw [Int.emod_eq_of_lt (by omega) (by omega)]
        exact pf _ (by omega) (by omega) (fun hm => by have := hall _ hm; omega)
      · rw [show a + (j : Int) * 1 = a + j - n + n by omega, Int.add_emod_right, Int.emod_eq_of_lt (by omega) (by omega)]
        refine pf _ (by omega) (by omega) (fun hm => ?_)
        obtain ⟨m, hm', em⟩ := List.getElem_of_mem hm
        rcases Nat.eq_zero_or_pos m with g2 | g2
        · subst g2; omega
        · have := hlt 0 m hne hm' g2; omega

theorem seek_dn {n : Nat} {p : Int → Bool} {L : List Int} (hL : L.Pairwise (· < ·)) (hr : ∀ x ∈ L, 0 ≤ x ∧ x < (n : Int)) (hp : ∀ x, 0 ≤ x → x < (n : Int) → (p x = true ↔ x ∈ L)) {a : Int} (a0 : 0 ≤ a) (a1 : a < (n : Int)) (hne : L.length - 1 < L.length) :
    ∃ k, srch n (fun i => p ((a + (i : Int) * -1) % (n : Int))) = some k ∧ (a + (k : Int) * (-1 : Int)) % (n : Int) = bestDn L a L[L.length - 1] L.length := by
  have hlt : ∀ (i j : Nat) (hi : i < L.length) (hj : j < L.length), i < j → L[i] < L[j] := fun i j hi hj h => List.pairwise_iff_getElem.1 hL i j hi hj h
  have hLr : L.reverse.Pairwise (fun x y => y < x) := List.pairwise_reverse.2 hL
  have hltr : ∀ (i j : Nat) (hi : i < L.reverse.length) (hj : j < L.reverse.length), i < j → L.reverse[j] < L.reverse[i] := fun i j hi hj h => List.pairwise_iff_getElem.1 hLr i j hi hj h
  have pf : ∀ x, 0 ≤ x → x < (n : Int) → x ∉ L → p x = false := fun x h0 h1 h => by
    cases hx : p x
    · rfl
    · exact absurd ((hp x h0 h1).1 hx) h
  unfold bestDn
  rw [List.take_length]
  cases hf : L.reverse.find? (fun x => decide (x ≤ a)) with
  | some b =>
    rw [List.find?_eq_some_iff_getElem] at hf
    obtain ⟨hb, i, hi, e, hj⟩ := hf
    have hab : b ≤ a := of_decide_eq_true hb
    have hbm : b ∈ L := List.mem_reverse.1 (e ▸ List.getElem_mem hi)
    have hbr := hr b hbm
    have ek : (a + (((a - b).toNat : Nat) : Int) * -1) % (n : Int) = b := by rw [show a + (((a - b).toNat : Nat) : Int) * -1 = b by omega, Int.emod_eq_of_lt hbr.1 hbr.2]
    refine ⟨(a - b).toNat, srch_some (by omega) ?_ ?_, by rw [ek]; rfl⟩
    · show p _ = true
      rw [ek]
      exact (hp b hbr.1 hbr.2).2 hbm
    · intro j hjk
      show p _ = false
      rw [Int.emod_eq_of_lt (by omega) (by omega)]
      refine pf _ (by omega) (by omega) (fun hm => ?_)
      obtain ⟨m, hm', em⟩ := List.getElem_of_mem (List.mem_reverse.2 hm)
      rcases Nat.lt_or_ge m i with g | g
      · have := hj m g
        simp only [Bool.not_eq_eq_eq_not, Bool.not_true, decide_eq_false_iff_not] at this
        omega
      · rcases Nat.lt_or_ge i m with g2 | g2
        · have := hltr i m hi hm' g2; omega
        · have : m = i := by omega
          subst this; omega
  | none =>
    rw [List.find?_eq_none] at hf
    have hall : ∀ x ∈ L, a < x := fun x hx => by have := hf x (List.mem_reverse.2 hx); simp at this; omega
    have hbm : L[L.length - 1] ∈ L := List.getElem_mem hne
    have hbr := hr _ hbm
    have hba := hall _ hbm
    show ∃ k, _ ∧ _ = L[L.length - 1]
    obtain ⟨b, hb⟩ : ∃ b, L[L.length - 1] = b := ⟨_, rfl⟩
    rw [hb] at hbm hbr hba ⊢
    have ek : (a + (((a + n - b).toNat : Nat) : Int) * -1) % (n : Int) = b := by
      rw [show a + (((a + n - b).toNat : Nat) : Int) * -1 = b - n by omega, Int.sub_emod_right, Int.emod_eq_of_lt hbr.1 hbr.2]
    refine ⟨(a + n - b).toNat, srch_some (by omega) ?_ ?_, ek⟩
    · show p _ = true
      rw [ek]
      exact (hp b hbr.1 hbr.2).2 hbm
    · intro j hjk
      show p _ = false
      by_cases g : (j : Int) ≤ a
      · rw [Int.emod_eq_of_lt (by omega) (by omega)]
        exact pf _ (by omega) (by omega) (fun hm => by have := hall _ hm; omega)
      · rw [show a + (j : Int) * -1 = a - j + n - n by omega, Int.sub_emod_right, Int.emod_eq_of_lt (by omega) (by omega)]
        refine pf _ (by omega) (by omega) (fun hm => ?_)
        obtain ⟨m, hm', em⟩ := List.getElem_of_mem hm
        rcases Nat.lt_or_ge m (L.length - 1) with g2 | g2
        · have := hlt m (L.length - 1) hm' hne g2; omega
        · have : m = L.length - 1 := by omega
          subst this; omega

theorem flds_start_lt (P : Pl) {a b : Nat} (h : a < b) (hb : b < P.flds.length) : P.flds[a].start < P.flds[b].start := by
  have hb' : b < P.starts.length := by rwa [flds_len] at hb
  have ha' : a < P.starts.length := by omega
  rw [flds_at, flds_at]
  have := P.starts_lt h hb'
  show ((P.starts[a] : Nat) : Int) < ((P.starts[b] : Nat) : Int)
  omega
theorem opl_pair (P : Pl) (k : Nat) : (P.opl k).Pairwise (· < ·) := by
  unfold Pl.opl
  refine List.Pairwise.map (S := fun a b => a < b) (R := fun a b => a.start < b.start) Fld.start (fun _ _ h => h) ?_
  refine List.Pairwise.filter _ ?_
  refine List.Pairwise.sublist (List.take_sublist _ _) ?_
  rw [List.pairwise_iff_getElem]
  intro i j hi hj h
  exact flds_start_lt P h hj
theorem opl_mem {P : Pl} {x : Int} : x ∈ P.opl P.flds.length ↔ ∃ (c : Nat) (hc : c < P.flds.length), P.flds[c].start = x ∧ Pl.homeF P.flds[c] = true := by
  unfold Pl.opl
  rw [List.take_length, List.mem_map]
  constructor
  · rintro ⟨f, hf, e⟩
    rw [List.mem_filter] at hf
    obtain ⟨c, hc, e2⟩ := List.getElem_of_mem hf.1
    exact ⟨c, hc, by rw [e2]; exact e, by rw [e2]; exact hf.2⟩
  · rintro ⟨c, hc, e, h⟩
    exact ⟨P.flds[c], List.mem_filter.2 ⟨List.getElem_mem hc, h⟩, e⟩
theorem opl_range {P : Pl} (hok : P.ok) : ∀ x ∈ P.opl P.flds.length, 0 ≤ x ∧ x < (P.cells.length : Int) := by
  intro x hx
  obtain ⟨c, hc, e, -⟩ := opl_mem.1 hx
  have := fld_ok hok c hc
  rw [← e]
  exact ⟨this.1, this.2.1⟩
theorem opens_iff {P : Pl} (hok : P.ok) (x : Int) : P.opens x = true ↔ x ∈ P.opl P.flds.length := by
  rw [opl_mem]
  unfold Pl.opens
  constructor
  · intro h
    simp only [Bool.and_eq_true, beq_iff_eq] at h
    obtain ⟨hB, hs, hl⟩ := h
    have hb0 : 0 ≤ P.before x := of_decide_eq_true hB
    have hF : P.ofF x = P.fld (P.before x) := by unfold Pl.ofF; rw [if_pos hb0]
    have hbx : P.before x = x := by rw [hF] at hs; exact hs
    obtain ⟨s, hs'⟩ : ∃ s : Nat, x = (s : Int) := ⟨x.toNat, by omega⟩
    obtain ⟨h1, h2, h3⟩ := Pl.ofs_of hok (s := s) (by rw [hbx, hs'])
    obtain ⟨c, hc, e⟩ := P.starts_ix h1 h2
    refine ⟨c, by rw [flds_len]; exact hc, ?_, ?_⟩
    · rw [flds_at]; show ((P.starts[c] : Nat) : Int) = x; omega
    · have : P.flds[c]'(by rw [flds_len]; exact hc) = P.ofF x := by rw [flds_at, hF, hbx, hs', e]
      rw [this]
      unfold Pl.homeF
      simpa using hl
  · rintro ⟨c, hc, e, h⟩
    have hc' : c < P.starts.length := by rwa [flds_len] at hc
    have hm := P.starts_mem (List.getElem_mem hc')
    have hst : (P.starts[c] : Int) = x := by rw [← e, flds_at]; rfl
    obtain ⟨l, hl, el, -, -⟩ := Pl.len_spec hok hm.1 hm.2
    have hof := of_found hok hc (ofs_start P _ hm.1 x (by rw [el]; omega) hst)
    rw [hof.1, hof.2, e]
    unfold Pl.homeF at h
    simpa using h
theorem opl_seek_up {P : Pl} (hok : P.ok) {a : Int} (a0 : 0 ≤ a) (a1 : a < (P.cells.length : Int)) (hne : 0 < (P.opl P.flds.length).length) : P.seek a 1 = (bestUp (P.opl P.flds.length) a (P.opl P.flds.length)[0] 0 + 1) % (P.cells.length : Int) := by
  obtain ⟨k, h1, h2⟩ := seek_up (p := P.opens) (opl_pair P _) (opl_range hok) (fun x _ _ => opens_iff hok x) a0 a1 hne
  unfold Pl.seek
  rw [h1, ← h2, Int.emod_add_emod]
theorem opl_seek_dn {P : Pl} (hok : P.ok) {a : Int} (a0 : 0 ≤ a) (a1 : a < (P.cells.length : Int)) (hne : (P.opl P.flds.length).length - 1 < (P.opl P.flds.length).length) : P.seek a (-1) = (bestDn (P.opl P.flds.length) a (P.opl P.flds.length)[(P.opl P.flds.length).length - 1] (P.opl P.flds.length).length + 1) % (P.cells.length : Int) := by
  obtain ⟨k, h1, h2⟩ := seek_dn (p := P.opens) (opl_pair P _) (opl_range hok) (fun x _ _ => opens_iff hok x) a0 a1 hne
  unfold Pl.seek
  rw [h1, ← h2, Int.emod_add_emod]
theorem opl_seek_none {P : Pl} (hok : P.ok) (a s : Int) (h : (P.opl P.flds.length).length = 0) : P.seek a s = 0 := by
  have : srch P.cells.length (fun i => P.opens ((a + (i : Int) * s) % (P.cells.length : Int))) = none := by
    refine srch_none (fun j _ => ?_)
    show P.opens _ = false
    cases hx : P.opens ((a + (j : Int) * s) % (P.cells.length : Int))
    · rfl
    · have := (opens_iff hok _).1 hx
      rw [List.eq_nil_of_length_eq_zero h] at this
      cases this
  unfold Pl.seek
  rw [this]
end Go.Proofs.Ytbkddgeocmkegaa
