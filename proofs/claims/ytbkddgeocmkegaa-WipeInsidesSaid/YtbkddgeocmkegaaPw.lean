/- Lemmas on the way to this seat's statements; they bear no condition of their own. -/
import Derived.Test.YtbkddgeocmkegaaW2
/-! Planes whose fields are the same: plain laws. -/
namespace Go.Proofs.Ytbkddgeocmkegaa
set_option linter.unusedVariables false

/-- The same attributes' places, and the same attributes. -/
structure SameF (P Q : Pl) : Prop where
  st : SameSt P Q
  by' : ∀ s : Int, (P.at s).start = true → (Q.at s).byte = (P.at s).byte
theorem SameF.refl (P : Pl) : SameF P P := ⟨SameSt.refl P, fun _ _ => rfl⟩
theorem before_st {P : Pl} (hok : P.ok) (i : Int) (h : 0 ≤ P.before i) : (P.at (P.before i)).start = true := by
  obtain ⟨s, hs⟩ : ∃ s : Nat, P.before i = (s : Int) := ⟨(P.before i).toNat, by omega⟩
  obtain ⟨-, h2, -⟩ := Pl.ofs_of hok hs
  rw [hs]; exact h2
theorem SameF.ofB {P Q : Pl} (h : SameF P Q) (i : Int) : Q.ofB i = P.ofB i := by unfold Pl.ofB; rw [h.st.before]
theorem SameF.ofF {P Q : Pl} (hok : P.ok) (h : SameF P Q) (i : Int) : Q.ofF i = P.ofF i := by
  unfold Pl.ofF
  rw [h.st.before]
  by_cases h0 : 0 ≤ P.before i
  · rw [if_pos h0, if_pos h0, h.st.fld _ (h.by' _ (before_st hok i h0))]
  · rw [if_neg h0, if_neg h0]
theorem SameF.openAt {P Q : Pl} (hok : P.ok) (h : SameF P Q) (i : Int) : Q.openAt i = P.openAt i := by
  unfold Pl.openAt
  rw [h.ofB, h.ofF hok]
  unfold Pl.inB
  rw [h.st.len]
theorem SameSt.starts {P Q : Pl} (h : SameSt P Q) : Q.starts = P.starts := by
  unfold Pl.starts
  rw [h.len]
  congr 1
  funext i
  exact h.isSt i
theorem SameF.flds {P Q : Pl} (h : SameF P Q) : Q.flds = P.flds := by
  unfold Pl.flds
  rw [h.st.starts]
  apply List.map_congr_left
  intro i hi
  exact h.st.fld _ (h.by' _ (P.starts_mem hi).2)
theorem SameF.home {P Q : Pl} (h : SameF P Q) : Q.home = P.home := by unfold Pl.home; rw [h.flds, h.st.len]

theorem st_shut {P : Pl} (hok : P.ok) (i : Int) (h : (P.at i).start = true) : P.openAt i = false := by
  by_cases hi : 0 ≤ i ∧ i < (P.cells.length : Int)
  · obtain ⟨s, rfl⟩ : ∃ s : Nat, i = (s : Int) := ⟨i.toNat, by omega⟩
    obtain ⟨l, hl, el, -, -⟩ := Pl.len_spec hok (show s < P.cells.length by omega) h
    have hb := Pl.before_of hok (show s < P.cells.length by omega) h (ofs_start P s (by omega) (s : Int) (by rw [el]; omega) rfl)
    unfold Pl.openAt
    have h1 : P.ofB (s : Int) = true := by unfold Pl.ofB; rw [hb]; exact decide_eq_true (by omega)
    have h2 : (P.ofF (s : Int)).start = (s : Int) := by unfold Pl.ofF; rw [hb, if_pos (by omega)]; rfl
    rw [h1, h2]
    simp
  · unfold Pl.at at h
    rw [if_neg hi] at h
    cases h
theorem open_in {P : Pl} (hok : P.ok) {i : Int} (h : P.openAt i = true) : 0 ≤ i ∧ i < (P.cells.length : Int) := by
  by_cases hi : 0 ≤ i ∧ i < (P.cells.length : Int)
  · exact hi
  · have := openAt_out (P := P) i (decide_eq_false hi)
    rw [this] at h; cases h
theorem clr_sameF {P : Pl} (hok : P.ok) (l : List Int) (hl : ∀ x ∈ l, (0 ≤ x ∧ x < (P.cells.length : Int)) ∧ (P.at x).start = false) : SameF P (P.clr l) := by
  have hs := clr_same P l
  have ha := clr_at P l (fun x hx => (hl x hx).1)
  refine ⟨⟨hs.1, hs.2.1, hs.2.2.1, fun j => ?_⟩, fun s hst => ?_⟩
  · rw [ha]
    split
    · rename_i h; rw [(hl j h).2]; rfl
    · rfl
  · rw [ha]
    split
    · rename_i h; rw [(hl s h).2] at hst; cases hst
    · rfl

/-- The places at which something may be typed, below k. -/
def Pl.opn (P : Pl) (k : Nat) : List Int := ((List.range k).filter fun (i : Nat) => P.openAt (i : Int)).map fun (i : Nat) => (i : Int)
theorem opn_step (P : Pl) (k : Nat) : P.opn (k + 1) = P.opn k ++ if P.openAt (k : Int) then [(k : Int)] else [] := by
  unfold Pl.opn
  rw [List.range_succ, List.filter_append, List.map_append]
  congr 1
  cases h : P.openAt (k : Int) <;> simp [h]
theorem opn_len (P : Pl) (k : Nat) : (P.opn k).length ≤ k := by
  unfold Pl.opn
  rw [List.length_map]
  have := List.length_filter_le (fun (i : Nat) => P.openAt (i : Int)) (List.range k)
  simpa using this
theorem opn_mem (P : Pl) (k : Nat) (x : Int) : x ∈ P.opn k ↔ 0 ≤ x ∧ x < (k : Int) ∧ P.openAt x = true := by
  unfold Pl.opn
  rw [List.mem_map]
  constructor
  · rintro ⟨i, hi, rfl⟩
    rw [List.mem_filter, List.mem_range] at hi
    exact ⟨by omega, by omega, hi.2⟩
  · rintro ⟨h0, h1, h2⟩
    refine ⟨x.toNat, ?_, by omega⟩
    rw [List.mem_filter, List.mem_range]
    have : ((x.toNat : Nat) : Int) = x := by omega
    exact ⟨by omega, by rw [this]; exact h2⟩
theorem opn_sameF {P : Pl} (hok : P.ok) (k : Nat) : SameF P (P.clr (P.opn k)) := by
  refine clr_sameF hok _ (fun x hx => ?_)
  have h := (opn_mem P k x).1 hx
  refine ⟨open_in hok h.2.2, ?_⟩
  cases hs : (P.at x).start
  · rfl
  · rw [st_shut hok x hs] at h; cases h.2.2
theorem opn_clr_step {P : Pl} (k : Nat) (h : P.openAt (k : Int) = true) : P.clr (P.opn (k + 1)) = (P.clr (P.opn k)).set (k : Int) Cell.zero ∧ (P.opn (k + 1)).length = (P.opn k).length + 1 := by
  have e : P.opn (k + 1) = P.opn k ++ [(k : Int)] := by rw [opn_step, h]; rfl
  rw [e]
  exact ⟨clr_snoc _ _ _, by simp⟩
theorem opn_clr_skip {P : Pl} (k : Nat) (h : P.openAt (k : Int) = false) : P.opn (k + 1) = P.opn k := by
  rw [opn_step, h]
  simp

/-- Fields that are modified no more, those that are not protected. -/
def Pl.unm (P : Pl) (fs : List Fld) : Pl := fs.foldl (fun P f => if prot f.attr then P else P.mark f.start false) P
theorem unm_snoc (P : Pl) (fs : List Fld) (f : Fld) : P.unm (fs ++ [f]) = if prot f.attr then P.unm fs else (P.unm fs).mark f.start false := by simp [Pl.unm]
theorem unm_take (P : Pl) (fs : List Fld) (k : Nat) (hk : k < fs.length) : P.unm (fs.take (k + 1)) = if prot fs[k].attr then P.unm (fs.take k) else (P.unm (fs.take k)).mark fs[k].start false := by
  rw [List.take_add_one, List.getElem?_eq_getElem hk]
  exact unm_snoc _ _ _
theorem mark_same (P : Pl) (s : Int) (on : Bool) : (P.mark s on).rows = P.rows ∧ (P.mark s on).cols = P.cols ∧ (P.mark s on).cells.length = P.cells.length ∧ (P.mark s on).cursor = P.cursor := ⟨rfl, rfl, P.set_len _ _, rfl⟩
theorem mark_at (P : Pl) (s : Int) (on : Bool) (h0 : 0 ≤ s) (h1 : s < (P.cells.length : Int)) (j : Int) : (P.mark s on).at j = if j = s then { P.at s with byte := modi (P.at s).byte on } else P.at j := P.at_set s _ h0 h1 j
theorem mark_sameSt {P0 P : Pl} (h : SameSt P0 P) (s : Int) (on : Bool) (h0 : 0 ≤ s) (h1 : s < (P.cells.length : Int)) : SameSt P0 (P.mark s on) :=
  h.set h0 h1 (by show (P.at s).start = _; exact h.st s)
theorem mark_ok {P : Pl} (h : P.ok) (s : Int) (on : Bool) : (P.mark s on).ok := Pl.set_ok h (mark_cell h s on)

theorem modi_prot (x : Int) (on : Bool) (h : 0 ≤ x ∧ x ≤ 255) : prot (modi x on) = prot x := by
  unfold prot modi
  cases on <;> simp <;> congr 1 <;> omega
theorem low6_prot (x : Int) (h : 0 ≤ x ∧ x ≤ 255) : prot (low6 x) = prot x := by
  unfold prot low6
  congr 1
  omega

/-- Is there an unprotected field at a place, among the first k? -/
def Pl.unp (P : Pl) (k : Nat) (j : Int) : Bool := (P.flds.take k).any fun f => f.start == j && !prot f.attr
theorem unp_step (P : Pl) (k : Nat) (hk : k < P.flds.length) (j : Int) : P.unp (k + 1) j = (P.unp k j || (P.flds[k].start == j && !prot P.flds[k].attr)) := by
  unfold Pl.unp
  rw [List.take_add_one, List.getElem?_eq_getElem hk, List.any_append]
  simp
theorem unp_new {P : Pl} (k : Nat) (hk : k < P.flds.length) : P.unp k P.flds[k].start = false := by
  unfold Pl.unp
  rw [List.any_eq_false]
  intro f hf
  obtain ⟨c, hc, e⟩ := List.getElem_of_mem hf
  rw [List.length_take] at hc
  rw [List.getElem_take] at e
  have := flds_start_lt P (show c < k by omega) hk
  rw [e] at this
  simp only [Bool.and_eq_true, beq_iff_eq, not_and]
  intro h; omega
theorem unm_spec {P : Pl} (hok : P.ok) (k : Nat) (hk : k ≤ P.flds.length) : SameSt P (P.unm (P.flds.take k)) ∧ (P.unm (P.flds.take k)).ok ∧ (P.unm (P.flds.take k)).cursor = P.cursor ∧ ∀ j, (P.unm (P.flds.take k)).at j = if P.unp k j then { P.at j with byte := modi (P.at j).byte false } else P.at j := by
  induction k with
  | zero => exact ⟨SameSt.refl P, hok, rfl, fun j => by simp [Pl.unm, Pl.unp]⟩
  | succ k ih =>
    have hk' : k < P.flds.length := by omega
    obtain ⟨h1, h2, h3, h4⟩ := ih (by omega)
    have hr := fld_ok hok k hk'
    rw [unm_take P P.flds k hk']
    cases hp : prot P.flds[k].attr
    · rw [if_neg (by simp)]
      have s1 : P.flds[k].start < ((P.unm (P.flds.take k)).cells.length : Int) := by rw [h1.len]; exact hr.2.1
      refine ⟨mark_sameSt h1 _ _ hr.1 s1, mark_ok h2 _ _, h3, fun j => ?_⟩
      rw [mark_at _ _ _ hr.1 s1, unp_step P k hk', hp]
      by_cases e : j = P.flds[k].start
      · subst e
        rw [if_pos rfl, h4, unp_new k hk']
        simp
      · rw [if_neg e, h4]
        have : (P.flds[k].start == j) = false := by simp; omega
        rw [this]
        simp
    · rw [if_pos rfl]
      refine ⟨h1, h2, h3, fun j => ?_⟩
      rw [h4, unp_step P k hk', hp]
      simp
theorem unm_later {P : Pl} (hok : P.ok) (k : Nat) (hk : k ≤ P.flds.length) (j i : Nat) (hkj : k ≤ j) (hi : P.starts[j]? = some i) : ((P.unm (P.flds.take k)).at (i : Int)).byte = (P.at (i : Int)).byte := by
  obtain ⟨-, -, -, h4⟩ := unm_spec hok k hk
  obtain ⟨hj, e⟩ := List.getElem?_eq_some_iff.1 hi
  rw [h4]
  have hj' : j < P.flds.length := by rw [flds_len]; exact hj
  have : P.unp k (i : Int) = false := by
    unfold Pl.unp
    rw [List.any_eq_false]
    intro f hf
    obtain ⟨c, hc, e2⟩ := List.getElem_of_mem hf
    rw [List.length_take] at hc
    rw [List.getElem_take] at e2
    have := flds_start_lt P (show c < j by omega) hj'
    rw [e2, flds_at] at this
    simp only [Bool.and_eq_true, beq_iff_eq, not_and]
    intro h
    have : f.start < ((P.starts[j] : Nat) : Int) := this
    rw [e] at this; omega
  rw [this]
  simp
/-- What is open stays so. -/
theorem find_congr {α : Type} {l : List α} {p q : α → Bool} (h : ∀ x ∈ l, p x = q x) : l.find? p = l.find? q := by
  induction l with
  | nil => rfl
  | cons a l ih => rw [List.find?_cons, List.find?_cons, h a (List.mem_cons_self ..), ih (fun x hx => h x (List.mem_cons_of_mem _ hx))]
theorem unm_home {P : Pl} (hok : P.ok) : (P.unm P.flds).home = P.home := by
  have h := unm_spec hok P.flds.length (Nat.le_refl _)
  rw [List.take_length] at h
  obtain ⟨h1, h2, -, h4⟩ := h
  obtain ⟨U, hU⟩ : ∃ U, P.unm P.flds = U := ⟨_, rfl⟩
  rw [hU] at h1 h2 h4 ⊢
  clear hU
  unfold Pl.home
  have hf : U.flds = P.flds.map fun (f : Fld) => { f with attr := (U.fld f.start).attr } := by
    unfold Pl.flds
    rw [h1.starts, List.map_map]
    apply List.map_congr_left
    intro i hi
    show U.fld (i : Int) = _
    unfold Pl.fld
    rw [h1.after, h1.len]
    rfl
  rw [hf, List.find?_map, h1.len]
  have hq : (Pl.homeF ∘ fun (f : Fld) => ({ f with attr := (U.fld f.start).attr } : Fld)) = fun (f : Fld) => decide (0 < f.len) && !prot (U.fld f.start).attr := rfl
  rw [hq]
  have hc : P.flds.find? (fun (f : Fld) => decide (0 < f.len) && !prot (U.fld f.start).attr) = P.flds.find? Pl.homeF := by
    refine find_congr (fun f hfm => ?_)
    obtain ⟨c, hc, e⟩ := List.getElem_of_mem hfm
    unfold Pl.homeF
    congr 2
    have ha : f.attr = low6 (P.at f.start).byte := by rw [← e, flds_at]; rfl
    have hb := (Pl.at_ok hok f.start).1
    have hb2 := (Pl.at_ok h2 f.start).1
    show prot (low6 (U.at f.start).byte) = _
    rw [low6_prot _ hb2, ha, low6_prot _ hb, h4]
    split
    · exact modi_prot (P.at f.start).byte false hb
    · rfl
  rw [hc]
  cases P.flds.find? Pl.homeF <;> rfl
end Go.Proofs.Ytbkddgeocmkegaa
