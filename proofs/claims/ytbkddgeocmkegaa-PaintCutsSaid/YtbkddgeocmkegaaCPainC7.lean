/- Lemmas on the way to this seat's statements; they bear no condition of their own. -/
import Derived.Test.YtbkddgeocmkegaaCPainC6
import Derived.Sort.CutIn
import Derived.Stop.RegionWithIn
/-! What letting the rest of a field, or all that is open, go leaves; done twice it is as done once: plain laws. -/
namespace Go.Proofs.Ytbkddgeocmkegaa
set_option linter.unusedVariables false

theorem Pl.at_gt (P : Pl) (j : Nat) (hj : j < P.cells.length) : P.at (j : Int) = P.cells[j] := by
  unfold Pl.at
  rw [if_pos ⟨by omega, by omega⟩, getD_lt _ _ _ (by simpa using hj)]
  rfl
theorem Pl.ext_at {P Q : Pl} (hr : P.rows = Q.rows) (hc : P.cols = Q.cols) (hl : P.cells.length = Q.cells.length) (hk : P.cursor = Q.cursor) (h : ∀ j : Nat, j < P.cells.length → P.at (j : Int) = Q.at (j : Int)) : P = Q := by
  have hcells : P.cells = Q.cells := by
    refine List.ext_getElem hl (fun j h1 h2 => ?_)
    have := h j h1
    rw [P.at_gt j h1, Q.at_gt j h2] at this
    exact this
  obtain ⟨a, b, c, d⟩ := P
  obtain ⟨a', b', c', d'⟩ := Q
  simp only at hr hc hcells hk
  subst hr hc hcells hk
  rfl

/-- The same attributes' places, and as open as before. -/
structure SameO (P Q : Pl) : Prop where
  st : SameSt P Q
  pr : ∀ s : Int, (P.at s).start = true → prot (low6 (Q.at s).byte) = prot (low6 (P.at s).byte)
theorem SameO.ofS {P Q : Pl} (hok : P.ok) (h : SameO P Q) (i : Int) : (Q.ofF i).start = (P.ofF i).start ∧ (Q.ofF i).len = (P.ofF i).len ∧ prot (Q.ofF i).attr = prot (P.ofF i).attr := by
  unfold Pl.ofF
  rw [h.st.before]
  by_cases h0 : 0 ≤ P.before i
  · rw [if_pos h0, if_pos h0]
    refine ⟨rfl, ?_, h.pr _ (before_st hok i h0)⟩
    unfold Pl.fld
    rw [h.st.after, h.st.len]
  · rw [if_neg h0, if_neg h0]
    exact ⟨rfl, rfl, rfl⟩
theorem SameO.ofB {P Q : Pl} (h : SameO P Q) (i : Int) : Q.ofB i = P.ofB i := by unfold Pl.ofB; rw [h.st.before]
theorem SameO.openAt {P Q : Pl} (hok : P.ok) (h : SameO P Q) (i : Int) : Q.openAt i = P.openAt i := by
  obtain ⟨h1, -, h3⟩ := h.ofS hok i
  unfold Pl.openAt
  rw [h.ofB, h1, h3]
  unfold Pl.inB
  rw [h.st.len]
theorem SameF.sameO {P Q : Pl} (h : SameF P Q) : SameO P Q := ⟨h.st, fun s hs => by rw [h.by' s hs]⟩
theorem SameO.refl (P : Pl) : SameO P P := ⟨SameSt.refl P, fun _ _ => rfl⟩
theorem SameO.mark {P Q : Pl} (h : SameO P Q) (hq : Q.ok) (s : Int) (on : Bool) (h0 : 0 ≤ s) (h1 : s < (Q.cells.length : Int)) : SameO P (Q.mark s on) := by
  refine ⟨mark_sameSt h.st s on h0 h1, fun t ht => ?_⟩
  rw [mark_at _ _ _ h0 h1]
  split
  · rename_i e
    subst e
    rw [← h.pr t ht]
    have hb := (Pl.at_ok hq t).1
    show prot (low6 (modi (Q.at t).byte on)) = _
    rw [low6_prot _ (modi_ok hb on), low6_prot _ hb, modi_prot _ _ hb]
  · exact h.pr t ht
theorem SameO.opn {P Q : Pl} (hok : P.ok) (h : SameO P Q) (k : Nat) : Q.opn k = P.opn k := by
  unfold Pl.opn
  congr 2
  funext i
  exact h.openAt hok _
theorem modi_modi (x : Int) (a b : Bool) (h : 0 ≤ x ∧ x ≤ 255) : modi (modi x a) b = modi x b := by
  unfold modi
  cases a <;> cases b <;> simp <;> omega

/-- The rest of a field let go: the plane, how many, was it open. -/
def Pl.restL (P : Pl) (a : Int) : List Int :=
  if P.ofB a then (places (P.cells.length : Int) (P.ofF a)).drop (dst (P.cells.length : Int) (P.ofF a).start a - 1).toNat else btw (P.cells.length : Int) a 0
def Pl.restP (P : Pl) (a : Int) : Pl :=
  if P.openAt a then (if P.ofB a then (P.clr (P.restL a)).mark (P.ofF a).start true else P.clr (P.restL a)) else P
def Pl.restN (P : Pl) (a : Int) : Int := if P.openAt a then ((P.restL a).length : Int) else 0

theorem btw0_mem {n a : Int} (ha : 0 ≤ a ∧ a < n) (x : Int) : x ∈ btw n a 0 ↔ a ≤ x ∧ x < n := by
  have hN : (btwN n a 0 : Int) = n - a := by
    unfold btwN
    rw [if_neg (by omega)]
    omega
  constructor
  · intro h
    obtain ⟨k, hk, e⟩ := List.getElem_of_mem h
    have hk' := hk
    rw [btw_len] at hk'
    rw [btw_get] at e
    rw [Int.emod_eq_of_lt (by omega) (by omega)] at e
    omega
  · rintro ⟨h1, h2⟩
    have hk : (x - a).toNat < (btw n a 0).length := by rw [btw_len]; omega
    have e := btw_get n a 0 (x - a).toNat hk
    rw [Int.emod_eq_of_lt (by omega) (by omega)] at e
    rw [show x = (btw n a 0)[(x - a).toNat] by rw [e]; omega]
    exact List.getElem_mem _
theorem noF_st {P : Pl} (hok : P.ok) {a : Int} (ha : 0 ≤ a ∧ a < (P.cells.length : Int)) (hB : P.ofB a = false) (x : Int) : (P.at x).start = false := by
  cases hs : (P.at x).start
  · rfl
  · exfalso
    by_cases hx : 0 ≤ x ∧ x < (P.cells.length : Int)
    · obtain ⟨s, rfl⟩ : ∃ s : Nat, x = (s : Int) := ⟨x.toNat, by omega⟩
      have := st_ofB hok (show s < P.cells.length by omega) hs ha
      rw [hB] at this
      cases this
    · unfold Pl.at at hs
      rw [if_neg hx] at hs
      cases hs

/-- Of an open place's rest. -/
structure RestOk (P : Pl) (a : Int) : Prop where
  rg : ∀ x ∈ P.restL a, (0 ≤ x ∧ x < (P.cells.length : Int)) ∧ (P.at x).start = false ∧ P.openAt x = true
  me : a ∈ P.restL a
theorem openAt_own {P : Pl} (hok : P.ok) {a x : Int} (hx : 0 ≤ x ∧ x < (P.cells.length : Int)) (hB : P.ofB a = true) (hBx : P.ofB x = true) (hop : P.openAt a = true) (hF : P.ofF x = P.ofF a) (hne : x ≠ (P.ofF a).start) : P.openAt x = true := by
  unfold Pl.openAt at hop ⊢
  rw [hB] at hop
  rw [hBx, hF]
  simp only [if_true, Bool.and_eq_true, bne_iff_ne] at hop ⊢
  exact ⟨fun e => hne e.symm, hop.2⟩
theorem rest_ok {P : Pl} (hok : P.ok) {a : Int} (hop : P.openAt a = true) : RestOk P a := by
  have ha := open_in hok hop
  cases hB : P.ofB a
  · unfold Pl.openAt at hop
    have e : P.restL a = btw (P.cells.length : Int) a 0 := by unfold Pl.restL; rw [hB]; rfl
    refine ⟨fun x hx => ?_, ?_⟩
    · rw [e, btw0_mem ha] at hx
      have hst := noF_st hok ha hB x
      refine ⟨⟨by omega, hx.2⟩, hst, ?_⟩
      cases hBx : P.ofB x
      · unfold Pl.openAt; rw [hBx]; unfold Pl.inB; simp; omega
      · exfalso
        have h0 : 0 ≤ P.before x := of_decide_eq_true hBx
        have := before_st hok x h0
        rw [noF_st hok ha hB] at this
        cases this
    · rw [e, btw0_mem ha]; omega
  · obtain ⟨s, hs, hst, hF, hbef, -⟩ := ofF_fld hok hB
    have hs' : (0 : Int) ≤ (P.fld (s : Int)).start ∧ (P.fld (s : Int)).start < (P.cells.length : Int) := ⟨by show (0 : Int) ≤ (s : Int); omega, by show (s : Int) < _; omega⟩
    have hl := fld_len hok hs hst
    have e : P.restL a = (places (P.cells.length : Int) (P.fld (s : Int))).drop (dst (P.cells.length : Int) (s : Int) a - 1).toNat := by unfold Pl.restL; rw [hB, hF]; rfl
    obtain ⟨k0, e0, hk0, hdist, -, -⟩ := rest_facts hok hs hst ha hF hop
    have hk : (dst (P.cells.length : Int) (s : Int) a - 1).toNat = k0 := by omega
    rw [hk] at e
    refine ⟨fun x hx => ?_, ?_⟩
    · rw [e] at hx
      have hxm := List.mem_of_mem_drop hx
      have hxr := places_range (by omega) _ x hxm
      have h1 := (places_mem hs' hl hxr).1 hxm
      have hm := (mine_iff hok hs hst hxr).2 h1
      have hm' := hm
      unfold mineB at hm
      rw [Bool.and_eq_true, beq_iff_eq, bne_iff_ne] at hm
      have hBx := st_ofB hok hs hst hxr
      have hFx : P.ofF x = P.fld (s : Int) := by
        obtain ⟨t, _, _, hF2, _, _⟩ := ofF_fld hok hBx
        rw [hF2] at hm ⊢
        have : (t : Int) = (s : Int) := hm.1
        rw [this]
      have hopx := openAt_own hok hxr hB hBx hop (hFx.trans hF.symm) (by rw [hF]; exact hm.2)
      refine ⟨hxr, ?_, hopx⟩
      cases hsx : (P.at x).start
      · rfl
      · rw [st_shut hok x hsx] at hopx; cases hopx
    · rw [e]
      have hj := (hdist k0 hk0).2 rfl
      have : a = ((places (P.cells.length : Int) (P.fld (s : Int))).drop k0)[0]'(by rw [List.length_drop]; omega) := by
        rw [List.getElem_drop]; exact hj.symm
      rw [this]
      exact List.getElem_mem _

theorem restP_spec {P : Pl} (hok : P.ok) (a : Int) : (P.restP a).ok ∧ SameO P (P.restP a) ∧ (P.restP a).cursor = P.cursor ∧
    (∀ i, (P.at i).start = true → ((P.restP a).at i).start = true ∧ modi ((P.restP a).at i).byte false = modi (P.at i).byte false) ∧
    (∀ i, (P.at i).start = false → P.openAt i = false → (P.restP a).at i = P.at i) ∧
    (P.openAt a = true → (P.restP a).at a = Cell.zero) := by
  unfold Pl.restP
  cases hop : P.openAt a
  · exact ⟨hok, SameO.refl P, rfl, fun i hi => ⟨hi, rfl⟩, fun i _ _ => rfl, fun e => by cases e⟩
  · rw [if_pos rfl]
    have hR := rest_ok hok hop
    have hsame := clr_same P (P.restL a)
    have hcl := clr_ok hok (P.restL a)
    have hat := clr_at P (P.restL a) (fun x hx => (hR.rg x hx).1)
    have hsf : SameF P (P.clr (P.restL a)) := clr_sameF hok _ (fun x hx => ⟨(hR.rg x hx).1, (hR.rg x hx).2.1⟩)
    cases hB : P.ofB a
    · rw [if_neg (by simp)]
      refine ⟨hcl, hsf.sameO, hsame.2.2.2, fun i hi => ?_, fun i h1 h2 => ?_, fun _ => ?_⟩
      · rw [hat, if_neg (fun hm => by rw [(hR.rg i hm).2.1] at hi; cases hi)]; exact ⟨hi, rfl⟩
      · rw [hat, if_neg (fun hm => by rw [(hR.rg i hm).2.2] at h2; cases h2)]
      · rw [hat, if_pos hR.me]
    · rw [if_pos rfl]
      obtain ⟨s, hs, hst, hF, hbef, -⟩ := ofF_fld hok hB
      have es : (P.ofF a).start = (s : Int) := by rw [hF]; rfl
      rw [es]
      have hlen : (P.clr (P.restL a)).cells.length = P.cells.length := hsame.2.2.1
      have hma := mark_at (P.clr (P.restL a)) (s : Int) true (by omega) (by rw [hlen]; omega)
      have hns : (s : Int) ∉ P.restL a := fun hm => by have := (hR.rg _ hm).2.1; unfold Pl.isSt at hst; rw [hst] at this; cases this
      refine ⟨mark_ok hcl _ _, hsf.sameO.mark hcl _ _ (by omega) (by rw [hlen]; omega), hsame.2.2.2, fun i hi => ?_, fun i h1 h2 => ?_, fun _ => ?_⟩
      · have hin : i ∉ P.restL a := fun hm => by rw [(hR.rg i hm).2.1] at hi; cases hi
        rw [hma]
        split
        · rename_i e
          subst e
          rw [hat, if_neg hns]
          exact ⟨hi, by show modi (modi (P.at (s : Int)).byte true) false = _; exact modi_modi _ _ _ (Pl.at_ok hok _).1⟩
        · rw [hat, if_neg hin]; exact ⟨hi, rfl⟩
      · have hin : i ∉ P.restL a := fun hm => by rw [(hR.rg i hm).2.2] at h2; cases h2
        have his : i ≠ (s : Int) := fun e => by subst e; unfold Pl.isSt at hst; rw [hst] at h1; cases h1
        rw [hma, if_neg his, hat, if_neg hin]
      · have his : a ≠ (s : Int) := fun e => hns (by rw [← e]; exact hR.me)
        rw [hma, if_neg his, hat, if_pos hR.me]
theorem restN_pos {P : Pl} (hok : P.ok) (a : Int) : (decide (0 < P.restN a)) = P.openAt a ∧ 0 ≤ P.restN a ∧ P.restN a ≤ 4096 := by
  have hN := Pl.N_le hok
  unfold Pl.restN
  cases hop : P.openAt a
  · simp
  · rw [if_pos rfl]
    have hR := rest_ok hok hop
    have ha := open_in hok hop
    have h1 : 0 < (P.restL a).length := List.length_pos_of_mem hR.me
    refine ⟨by simp; omega, by omega, ?_⟩
    unfold Pl.restL
    split
    · rw [List.length_drop, places_len]
      unfold placesN
      split <;> omega
    · rw [btw_len]
      have := btwN_pos (n := (P.cells.length : Int)) (a := a) (b := 0) ha ⟨by omega, by omega⟩
      omega
theorem clr_id {P : Pl} (l : List Int) (hl : ∀ x ∈ l, (0 ≤ x ∧ x < (P.cells.length : Int)) ∧ P.at x = Cell.zero) : P.clr l = P := by
  have hs := clr_same P l
  refine Pl.ext_at hs.1 hs.2.1 hs.2.2.1 hs.2.2.2 (fun j _ => ?_)
  rw [clr_at P l (fun x hx => (hl x hx).1)]
  split
  · rename_i h; exact (hl _ h).2.symm
  · rfl
theorem mark_id {P : Pl} (s : Int) (on : Bool) (h0 : 0 ≤ s) (h1 : s < (P.cells.length : Int)) (h : modi (P.at s).byte on = (P.at s).byte) : P.mark s on = P := by
  refine Pl.ext_at rfl rfl (P.set_len _ _) rfl (fun j _ => ?_)
  rw [mark_at _ _ _ h0 h1]
  split
  · rename_i e; rw [e, h]
  · rfl
theorem restP_twice {P : Pl} (hok : P.ok) (a : Int) : (P.restP a).restP a = P.restP a := by
  obtain ⟨qok, qo, -, -, -, hz⟩ := restP_spec hok a
  obtain ⟨Q, hQ⟩ : ∃ Q, P.restP a = Q := ⟨_, rfl⟩
  have ho := qo.openAt hok a
  rw [hQ] at qok qo ho hz ⊢
  unfold Pl.restP
  rw [ho]
  cases hop : P.openAt a
  · rfl
  · rw [if_pos rfl]
    have hR := rest_ok hok hop
    have hfs := qo.ofS hok a
    have hlen := qo.st.len
    have hLL : Q.restL a = P.restL a := by
      unfold Pl.restL
      rw [qo.ofB, hlen, hfs.1]
      have : places (P.cells.length : Int) (Q.ofF a) = places (P.cells.length : Int) (P.ofF a) := by
        unfold places placesN
        rw [hfs.1, hfs.2.1]
      rw [this]
    have hzero : ∀ x ∈ P.restL a, (0 ≤ x ∧ x < (Q.cells.length : Int)) ∧ Q.at x = Cell.zero := by
      intro x hx
      have hx1 := hR.rg x hx
      refine ⟨by rw [hlen]; exact hx1.1, ?_⟩
      have hcat := clr_at P (P.restL a) (fun x hx => (hR.rg x hx).1)
      rw [← hQ]
      unfold Pl.restP
      rw [hop, if_pos rfl]
      cases hB : P.ofB a
      · rw [if_neg (by simp), hcat, if_pos hx]
      · rw [if_pos rfl]
        obtain ⟨s, hs, hst, hF, hbef, -⟩ := ofF_fld hok hB
        have es : (P.ofF a).start = (s : Int) := by rw [hF]; rfl
        have hns : x ≠ (P.ofF a).start := fun e => by rw [es] at e; subst e; have := hx1.2.1; unfold Pl.isSt at hst; rw [hst] at this; cases this
        rw [mark_at _ _ _ (by rw [es]; omega) (by rw [es, (clr_same P (P.restL a)).2.2.1]; omega), if_neg hns, hcat, if_pos hx]
    rw [qo.ofB, hfs.1, hLL, clr_id _ hzero]
    cases hB : P.ofB a
    · rfl
    · rw [if_pos rfl]
      obtain ⟨s, hs, hst, hF, hbef, -⟩ := ofF_fld hok hB
      have es : (P.ofF a).start = (s : Int) := by rw [hF]; rfl
      rw [es]
      refine mark_id _ _ (by omega) (by rw [hlen]; omega) ?_
      have hb : ∃ x : Int, (0 ≤ x ∧ x ≤ 255) ∧ (Q.at (s : Int)).byte = modi x true := by
        rw [← hQ]
        unfold Pl.restP
        rw [hop, if_pos rfl, hB, if_pos rfl, es, mark_at _ _ _ (by omega) (by rw [(clr_same P (P.restL a)).2.2.1]; omega), if_pos rfl]
        exact ⟨_, (Pl.at_ok (clr_ok hok _) _).1, rfl⟩
      obtain ⟨x, hx, e⟩ := hb
      rw [e, modi_modi _ _ _ hx]

/-- All that is open let go. -/
theorem wiped_spec {P : Pl} (hok : P.ok) : P.wiped.ok ∧ SameO P P.wiped ∧ P.wiped.cursor = P.home ∧
    (∀ i, P.wiped.at i = if P.openAt i = true ∧ 0 ≤ i ∧ i < (P.cells.length : Int) then Cell.zero else if P.opened.unp P.opened.flds.length i then { P.at i with byte := modi (P.at i).byte false } else P.at i) := by
  have hsf : SameF P P.opened := opn_sameF hok P.cells.length
  have hok1 : P.opened.ok := clr_ok hok _
  obtain ⟨h1, h2, h3, h4⟩ := unm_spec hok1 P.opened.flds.length (Nat.le_refl _)
  rw [List.take_length] at h1 h2 h3 h4
  have hh := home_range' hok
  have hlen : (P.opened.unm P.opened.flds).cells.length = P.cells.length := h1.len.trans (clr_same P _).2.2.1
  have hatO : ∀ i, P.opened.at i = if i ∈ P.opn P.cells.length then Cell.zero else P.at i := clr_at P _ (fun x hx => open_in hok ((opn_mem P _ x).1 hx).2.2)
  have hmem : ∀ i, i ∈ P.opn P.cells.length ↔ (P.openAt i = true ∧ 0 ≤ i ∧ i < (P.cells.length : Int)) := fun i => by rw [opn_mem]; constructor <;> intro h <;> exact ⟨by first | exact h.2.2 | exact h.2.1, by first | exact h.1 | exact h.2.2, by first | exact h.2.1 | exact h.1⟩
  have hun : ∀ i, P.openAt i = true → P.opened.unp P.opened.flds.length i = false := by
    intro i hi
    unfold Pl.unp
    rw [List.take_length, List.any_eq_false]
    intro f hf
    obtain ⟨c, hc, e⟩ := List.getElem_of_mem hf
    simp only [Bool.and_eq_true, beq_iff_eq, not_and]
    intro hfi
    exfalso
    have hst : (P.at i).start = true := by
      rw [← hsf.st.st, ← hfi, ← e, flds_at]
      exact (P.opened.starts_mem (List.getElem_mem _)).2
    rw [st_shut hok i hst] at hi
    cases hi
  have hat : ∀ i, P.wiped.at i = if P.openAt i = true ∧ 0 ≤ i ∧ i < (P.cells.length : Int) then Cell.zero else if P.opened.unp P.opened.flds.length i then { P.at i with byte := modi (P.at i).byte false } else P.at i := by
    intro i
    show (P.opened.unm P.opened.flds).at i = _
    rw [h4, hatO]
    by_cases hm : i ∈ P.opn P.cells.length
    · have hm' := (hmem i).1 hm
      rw [if_pos hm, if_pos hm', hun i hm'.1]
      simp
    · rw [if_neg hm, if_neg (fun h => hm ((hmem i).2 h))]
  refine ⟨Pl.point_ok h2 hh.1 (by rw [hlen]; exact hh.2), ?_, rfl, hat⟩
  refine ⟨⟨h1.rows.trans hsf.st.rows, h1.cols.trans hsf.st.cols, hlen, fun j => (h1.st j).trans (hsf.st.st j)⟩, fun s hs => ?_⟩
  rw [hat, if_neg (fun h => by rw [st_shut hok s hs] at h; cases h.1)]
  split
  · have hb := (Pl.at_ok hok s).1
    show prot (low6 (modi (P.at s).byte false)) = _
    rw [low6_prot _ (modi_ok hb _), low6_prot _ hb, modi_prot _ _ hb]
  · rfl
theorem home_sameO {P Q : Pl} (hok : P.ok) (hq : Q.ok) (h : SameO P Q) : Q.home = P.home := by
  unfold Pl.home
  have hf : Q.flds = P.flds.map fun (f : Fld) => { f with attr := (Q.fld f.start).attr } := by
    unfold Pl.flds
    rw [h.st.starts, List.map_map]
    apply List.map_congr_left
    intro i hi
    show Q.fld (i : Int) = _
    unfold Pl.fld
    rw [h.st.after, h.st.len]
    rfl
  rw [hf, List.find?_map, h.st.len]
  have hq : (Pl.homeF ∘ fun (f : Fld) => ({ f with attr := (Q.fld f.start).attr } : Fld)) = fun (f : Fld) => decide (0 < f.len) && !prot (Q.fld f.start).attr := rfl
  rw [hq]
  have hc : P.flds.find? (fun (f : Fld) => decide (0 < f.len) && !prot (Q.fld f.start).attr) = P.flds.find? Pl.homeF := by
    refine find_congr (fun f hfm => ?_)
    obtain ⟨c, hc, e⟩ := List.getElem_of_mem hfm
    unfold Pl.homeF
    congr 2
    have hst : (P.at f.start).start = true := by rw [← e, flds_at]; exact (P.starts_mem (List.getElem_mem _)).2
    have ha : f.attr = low6 (P.at f.start).byte := by rw [← e, flds_at]; rfl
    rw [ha]
    exact h.pr _ hst
  rw [hc]
  cases P.flds.find? Pl.homeF <;> rfl
theorem wiped_twice {P : Pl} (hok : P.ok) : P.wiped.wiped = P.wiped := by
  obtain ⟨rok, ro, rc, rat⟩ := wiped_spec hok
  obtain ⟨R, hR⟩ : ∃ R, P.wiped = R := ⟨_, rfl⟩
  rw [hR] at rok ro rc rat ⊢
  obtain ⟨sok, so, sc, sat⟩ := wiped_spec rok
  refine Pl.ext_at so.st.rows so.st.cols so.st.len (by rw [sc, rc, home_sameO hok rok ro]) (fun j hj => ?_)
  rw [sat, ro.openAt hok, ro.st.len]
  by_cases hop : P.openAt (j : Int) = true ∧ 0 ≤ (j : Int) ∧ (j : Int) < (P.cells.length : Int)
  · rw [if_pos hop, rat, if_pos hop]
  · rw [if_neg hop]
    split
    · rename_i hu
      have hu2 : P.opened.unp P.opened.flds.length (j : Int) = true := by
        unfold Pl.unp at hu ⊢
        rw [List.take_length, List.any_eq_true] at hu ⊢
        obtain ⟨f, hf, hfc⟩ := hu
        have hsfR : SameF R R.opened := opn_sameF rok R.cells.length
        have hsfP : SameF P P.opened := opn_sameF hok P.cells.length
        rw [hsfR.flds] at hf
        rw [hsfP.flds]
        obtain ⟨c, hc, e⟩ := List.getElem_of_mem hf
        have hc2 : c < P.flds.length := by
          rw [flds_len] at hc ⊢
          rw [ro.st.starts] at hc
          exact hc
        have e1 : f.start = (P.flds[c]).start := by
          rw [← e, flds_at, flds_at]
          show ((R.starts[c]'(by rw [← flds_len]; exact hc) : Nat) : Int) = ((P.starts[c]'(by rw [← flds_len]; exact hc2) : Nat) : Int)
          congr 1
          simp only [ro.st.starts]
        have hst : (P.at P.flds[c].start).start = true := by rw [flds_at]; exact (P.starts_mem (List.getElem_mem _)).2
        refine ⟨P.flds[c], List.getElem_mem _, ?_⟩
        rw [Bool.and_eq_true, beq_iff_eq] at hfc ⊢
        refine ⟨by rw [← e1]; exact hfc.1, ?_⟩
        have ha : f.attr = low6 (R.at f.start).byte := by rw [← e, flds_at]; rfl
        have hb : P.flds[c].attr = low6 (P.at P.flds[c].start).byte := by rw [flds_at]; rfl
        rw [hb, ← ro.pr _ hst, ← e1, ← ha]
        exact hfc.2
      rw [rat, if_neg hop, if_pos hu2]
      show ({ P.at (j : Int) with byte := modi (modi (P.at (j : Int)).byte false) false } : Cell) = _
      rw [modi_modi _ _ _ (Pl.at_ok hok _).1]
    · rfl
end Go.Proofs.Ytbkddgeocmkegaa

/-! Orders cut, come round, and what they keep: plain laws of brushes. -/
namespace Go.Proofs.Ytbkddgeocmkegaa
set_option linter.unusedVariables false

/-- Another mark of data laid last. -/
def Br.wl (s : Br) (l : Bool) : Br := { s with laid := l }
theorem mk_bytes (s : Br) (l : Bool) (d : List Int) : (s.wl l).bytes d = (s.bytes d).wl l := by
  induction d generalizing s with
  | nil => rfl
  | cons b d ih =>
    show ((s.wl l).lay ((s.wl l).char b false)).bytes d = _
    have : (s.wl l).lay ((s.wl l).char b false) = (s.lay (s.char b false)).wl l := rfl
    rw [this, ih]
    rfl
theorem mk_act (s : Br) (l : Bool) (o : Ord) (h : o.kind ≠ 5) : (s.wl l).act o = ((s.act o).1.wl l, (s.act o).2) := by
  have ht : (s.wl l).there o.addr = s.there o.addr := rfl
  have hb := mk_bytes s l o.data
  have hs : ((s.wl l).P.at (s.wl l).pos).start = (s.P.at s.pos).start := rfl
  unfold Br.act
  rw [ht, hb, hs]
  by_cases e : o.kind = 0
  · rw [if_pos e, if_pos e]
  rw [if_neg e, if_neg e]; clear e
  by_cases e : o.kind = 8
  · rw [if_pos e, if_pos e]; rfl
  rw [if_neg e, if_neg e]; clear e
  by_cases e : o.kind = 17
  · rw [if_pos e, if_pos e]; cases s.there o.addr <;> rfl
  rw [if_neg e, if_neg e]; clear e
  by_cases e : o.kind = 29
  · rw [if_pos e, if_pos e]; rfl
  rw [if_neg e, if_neg e]; clear e
  by_cases e : o.kind = 41
  · rw [if_pos e, if_pos e]; rfl
  rw [if_neg e, if_neg e]; clear e
  by_cases e : o.kind = 40
  · rw [if_pos e, if_pos e]; rfl
  rw [if_neg e, if_neg e]; clear e
  by_cases e : o.kind = 44
  · rw [if_pos e, if_pos e]; cases (s.P.at s.pos).start <;> rfl
  rw [if_neg e, if_neg e]; clear e
  by_cases e : o.kind = 19
  · rw [if_pos e, if_pos e]; rfl
  rw [if_neg e, if_neg e]; clear e
  rw [if_neg h, if_neg h]
  by_cases e : o.kind = 60
  · rw [if_pos e, if_pos e]; cases s.there o.addr <;> rfl
  rw [if_neg e, if_neg e]; clear e
  by_cases e : o.kind = 18
  · rw [if_pos e, if_pos e]; cases s.there o.addr <;> rfl
  rw [if_neg e, if_neg e]
theorem mk_dO (s : Br) (l : Bool) (o : Ord) (h : o.kind ≠ 5) : ∃ l', (s.wl l).dO o = ((s.dO o).1.wl l', (s.dO o).2) := by
  unfold Br.dO
  split
  · rw [mk_act s l o h]
    exact ⟨isData o, rfl⟩
  · exact ⟨l, rfl⟩
theorem mk_run (s : Br) (l : Bool) (os : List Ord) (h : ∀ o ∈ os, o.kind ≠ 5) : ∃ l', (s.wl l).run os = ((s.run os).1.wl l', (s.run os).2) := by
  induction os generalizing s l with
  | nil => exact ⟨l, rfl⟩
  | cons o os ih =>
    obtain ⟨l1, h1⟩ := mk_dO s l o (h o (List.mem_cons_self ..))
    simp only [Br.run, h1]
    split
    · obtain ⟨l2, h2⟩ := ih (s.dO o).1 l1 (fun x hx => h x (List.mem_cons_of_mem _ hx))
      rw [h2]
      exact ⟨l2, rfl⟩
    · exact ⟨l1, rfl⟩
theorem run_append (s : Br) (cs bs : List Ord) : s.run (cs ++ bs) = if (s.run cs).2.2 = 0 then (((s.run cs).1.run bs).1, ((s.run cs).1.run bs).2.1 + cs.length, ((s.run cs).1.run bs).2.2) else s.run cs := by
  induction cs generalizing s with
  | nil => simp [Br.run]
  | cons o cs ih =>
    have e : ∀ l, s.run (o :: l) = if (s.dO o).2 = 0 then (((s.dO o).1.run l).1, ((s.dO o).1.run l).2.1 + 1, ((s.dO o).1.run l).2.2) else ((s.dO o).1, 0, (s.dO o).2) := fun l => by simp only [Br.run]
    by_cases he : (s.dO o).2 = 0
    · have e1 : s.run (o :: cs) = (((s.dO o).1.run cs).1, ((s.dO o).1.run cs).2.1 + 1, ((s.dO o).1.run cs).2.2) := by rw [e, if_pos he]
      have e2 : s.run (o :: cs ++ bs) = (((s.dO o).1.run (cs ++ bs)).1, ((s.dO o).1.run (cs ++ bs)).2.1 + 1, ((s.dO o).1.run (cs ++ bs)).2.2) := by rw [List.cons_append, e, if_pos he]
      by_cases h2 : ((s.dO o).1.run cs).2.2 = 0
      · have e3 := ih (s.dO o).1
        rw [if_pos h2] at e3
        rw [if_pos (by rw [e1]; exact h2), e2, e1, e3]
        simp only [List.length_cons, Prod.mk.injEq, true_and, and_true]
        omega
      · have e3 := ih (s.dO o).1
        rw [if_neg h2] at e3
        rw [if_neg (by rw [e1]; exact h2), e2, e1, e3]
    · have e1 : ∀ l, s.run (o :: l) = ((s.dO o).1, 0, (s.dO o).2) := fun l => by rw [e, if_neg he]
      rw [if_neg (by rw [e1]; exact he), List.cons_append, e1, e1]
theorem run_ok_len (s : Br) (os : List Ord) (h : (s.run os).2.2 = 0) : (s.run os).2.1 = os.length := by
  induction os generalizing s with
  | nil => rfl
  | cons o os ih =>
    simp only [Br.run] at h ⊢
    by_cases he : (s.dO o).2 = 0
    · rw [if_pos he] at h ⊢
      show ((s.dO o).1.run os).2.1 + 1 = _
      rw [ih _ h]
      rfl
    · rw [if_neg he] at h
      exact absurd h he
theorem run_len (s : Br) (os : List Ord) : (s.run os).2.1 ≤ os.length := by
  induction os generalizing s with
  | nil => exact Nat.le_refl _
  | cons o os ih =>
    simp only [Br.run]
    split
    · have := ih (s.dO o).1; show ((s.dO o).1.run os).2.1 + 1 ≤ _; simp; omega
    · exact Nat.zero_le _
theorem run_state_ok {s : Br} (h : s.ok) {os : List Ord} (ho : ∀ o ∈ os, o.ok) : (s.run os).1.ok := by
  induction os generalizing s with
  | nil => exact h
  | cons o os ih =>
    have h1 := Br.dO_ok h (ho o (List.mem_cons_self ..))
    simp only [Br.run]
    split
    · exact ih h1 (fun x hx => ho x (List.mem_cons_of_mem _ hx))
    · exact h1
def ErR (s : Br) (r : Br × Int) : Prop := r.2 ≠ 0 → r.1 = s
def LkR (s : Br) (r : Br × Int) : Prop := r.1.look = s.look
theorem act_err (s : Br) (o : Ord) : (s.act o).2 ≠ 0 → (s.act o).1 = s := by
  show ErR s (s.act o)
  have z : ∀ t : Br, ErR s (t, 0) := fun t h => absurd rfl h
  have y : ∀ n : Int, ErR s (s, n) := fun n _ => rfl
  unfold Br.act
  refine ite_all (fun _ => z _) (fun _ => ?_)
  refine ite_all (fun _ => z _) (fun _ => ?_)
  refine ite_all (fun _ => ite_all (fun _ => z _) (fun _ => y _)) (fun _ => ?_)
  refine ite_all (fun _ => z _) (fun _ => ?_)
  refine ite_all (fun _ => z _) (fun _ => ?_)
  refine ite_all (fun _ => z _) (fun _ => ?_)
  refine ite_all (fun _ => ite_all (fun _ => z _) (fun _ => y _)) (fun _ => ?_)
  refine ite_all (fun _ => z _) (fun _ => ?_)
  refine ite_all (fun _ => z _) (fun _ => ?_)
  refine ite_all (fun _ => ite_all (fun _ => z _) (fun _ => y _)) (fun _ => ?_)
  exact ite_all (fun _ => ite_all (fun _ => z _) (fun _ => y _)) (fun _ => y _)
theorem dO_err (s : Br) (o : Ord) (h : (s.dO o).2 ≠ 0) : ∃ l, (s.dO o).1 = s.wl l := by
  revert h
  unfold Br.dO
  split
  · intro h
    have := act_err s o h
    rw [this]
    exact ⟨_, rfl⟩
  · intro h; exact ⟨s.laid, rfl⟩
/-- What was done ahead of an error, done alone. -/
theorem run_prefix (s : Br) (os : List Ord) : ∃ l, (s.run (os.take (s.run os).2.1)).1.wl l = (s.run os).1 ∧ (s.run (os.take (s.run os).2.1)).2 = ((s.run os).2.1, 0) := by
  induction os generalizing s with
  | nil => exact ⟨s.laid, rfl, rfl⟩
  | cons o os ih =>
    simp only [Br.run]
    by_cases he : (s.dO o).2 = 0
    · rw [if_pos he]
      obtain ⟨l, h1, h2⟩ := ih (s.dO o).1
      refine ⟨l, ?_, ?_⟩
      · show ((s.run (o :: os.take _)).1).wl l = _
        simp only [Br.run]
        rw [if_pos he]
        exact h1
      · show (s.run (o :: os.take _)).2 = _
        simp only [Br.run]
        rw [if_pos he]
        show (((s.dO o).1.run _).2.1 + 1, ((s.dO o).1.run _).2.2) = _
        rw [h2]
    · rw [if_neg he]
      obtain ⟨l, h1⟩ := dO_err s o he
      exact ⟨l, h1.symm, rfl⟩

/-- The look stays where no SA is. -/
theorem lay_look (s : Br) (c : Cell) : (s.lay c).look = s.look := rfl
theorem bytes_look (s : Br) (d : List Int) : (s.bytes d).look = s.look := by
  induction d generalizing s with
  | nil => rfl
  | cons b d ih => exact (ih (s.lay (s.char b false))).trans (lay_look _ _)
theorem act_look (s : Br) (o : Ord) (h : o.kind ≠ 40) : (s.act o).1.look = s.look := by
  show LkR s (s.act o)
  have y : ∀ n : Int, LkR s (s, n) := fun n => rfl
  unfold Br.act
  refine ite_all (fun _ => bytes_look _ _) (fun _ => ?_)
  refine ite_all (fun _ => rfl) (fun _ => ?_)
  refine ite_all (fun _ => ite_all (fun _ => rfl) (fun _ => y _)) (fun _ => ?_)
  refine ite_all (fun _ => rfl) (fun _ => ?_)
  refine ite_all (fun _ => rfl) (fun _ => ?_)
  refine ite_all (fun e => absurd e h) (fun _ => ?_)
  refine ite_all (fun _ => ite_all (fun _ => rfl) (fun _ => y _)) (fun _ => ?_)
  refine ite_all (fun _ => rfl) (fun _ => ?_)
  refine ite_all (fun _ => by show s.tab.look = _; unfold Br.tab; split <;> rfl) (fun _ => ?_)
  refine ite_all (fun _ => ite_all (fun _ => rfl) (fun _ => y _)) (fun _ => ?_)
  exact ite_all (fun _ => ite_all (fun _ => rfl) (fun _ => y _)) (fun _ => y _)
theorem dO_look (s : Br) (o : Ord) (h : o.kind ≠ 40) : (s.dO o).1.look = s.look := by
  unfold Br.dO
  split
  · exact act_look s o h
  · rfl
theorem run_look (s : Br) (os : List Ord) (h : ∀ o ∈ os, o.kind ≠ 40) : (s.run os).1.look = s.look := by
  induction os generalizing s with
  | nil => rfl
  | cons o os ih =>
    have h1 := dO_look s o (h o (List.mem_cons_self ..))
    simp only [Br.run]
    split
    · exact (ih (s.dO o).1 (fun x hx => h x (List.mem_cons_of_mem _ hx))).trans h1
    · exact h1

/-- A brush as it is at first. -/
def Br.new (P : Pl) (a : Int) : Br := ⟨P, a, Cell.zero, false⟩
theorem Br.new_ok {P : Pl} (h : P.ok) {a : Int} (a0 : 0 ≤ a) (a1 : a < (P.cells.length : Int)) : (Br.new P a).ok := ⟨h, a0, a1, Cell.zero_ok⟩
/-- Orders, cut. -/
theorem run_cut (P : Pl) (a : Int) (os : List Ord) (c : Nat) (h1 : ∀ o ∈ os.take c, o.kind ≠ 40) (h2 : ∀ o ∈ os.drop c, o.kind ≠ 5) :
    (((Br.new P a).run (os.take c)).2.2 = 0 → c ≤ os.length →
      ((Br.new ((Br.new P a).run (os.take c)).1.P ((Br.new P a).run (os.take c)).1.pos).run (os.drop c)).1.pos = ((Br.new P a).run os).1.pos ∧
      ((Br.new ((Br.new P a).run (os.take c)).1.P ((Br.new P a).run (os.take c)).1.pos).run (os.drop c)).1.P = ((Br.new P a).run os).1.P ∧
      ((Br.new P a).run (os.take c)).2.1 + ((Br.new ((Br.new P a).run (os.take c)).1.P ((Br.new P a).run (os.take c)).1.pos).run (os.drop c)).2.1 = ((Br.new P a).run os).2.1 ∧
      ((Br.new ((Br.new P a).run (os.take c)).1.P ((Br.new P a).run (os.take c)).1.pos).run (os.drop c)).2.2 = ((Br.new P a).run os).2.2) ∧
    (((Br.new P a).run (os.take c)).2.2 ≠ 0 → (Br.new P a).run (os.take c) = (Br.new P a).run os) := by
  have ha := run_append (Br.new P a) (os.take c) (os.drop c)
  rw [List.take_append_drop] at ha
  constructor
  · intro he hc
    rw [if_pos he] at ha
    have hl := run_ok_len _ _ he
    have hk := run_look (Br.new P a) (os.take c) h1
    obtain ⟨t, ht⟩ : ∃ t, (Br.new P a).run (os.take c) = t := ⟨_, rfl⟩
    rw [ht] at ha he hl hk ⊢
    have hn : Br.new t.1.P t.1.pos = t.1.wl false := by
      unfold Br.new Br.wl
      have : t.1.look = Cell.zero := hk
      rw [← this]
    obtain ⟨l', hr⟩ := mk_run t.1 false (os.drop c) h2
    rw [hn, hr, ha]
    refine ⟨rfl, rfl, ?_, rfl⟩
    show t.2.1 + (t.1.run (os.drop c)).2.1 = (t.1.run (os.drop c)).2.1 + (os.take c).length
    rw [hl]
    omega
  · intro he
    rw [if_neg he] at ha
    exact ha.symm

/-- As many bytes as there are cells come round. -/
theorem bytes_len (s : Br) (d : List Int) : (s.bytes d).P.cells.length = s.P.cells.length ∧ (s.bytes d).P.cursor = s.P.cursor ∧ (s.bytes d).P.rows = s.P.rows ∧ (s.bytes d).P.cols = s.P.cols := by
  induction d generalizing s with
  | nil => exact ⟨rfl, rfl, rfl, rfl⟩
  | cons b d ih =>
    obtain ⟨h1, h2, h3, h4⟩ := ih (s.lay (s.char b false))
    exact ⟨h1.trans (s.lay_len _), h2, h3, h4⟩
theorem bytes_pos' (t : Br) (d : List Int) (h0 : 0 ≤ t.pos) (h1 : t.pos < (t.P.cells.length : Int)) : (t.bytes d).pos = (t.pos + (d.length : Int)) % (t.P.cells.length : Int) := by
  induction d generalizing t with
  | nil => show t.pos = _; simp; exact (Int.emod_eq_of_lt h0 h1).symm
  | cons b d ih2 =>
    have hN : (0 : Int) < (t.P.cells.length : Int) := Int.lt_of_le_of_lt h0 h1
    have hN0 : (t.P.cells.length : Int) ≠ 0 := by omega
    have h2 := ih2 (t.lay (t.char b false)) (Int.emod_nonneg _ hN0) (by rw [t.lay_len]; exact Int.emod_lt_of_pos _ hN)
    rw [t.lay_len] at h2
    show ((t.lay (t.char b false)).bytes d).pos = _
    rw [h2]
    show ((t.pos + 1) % (t.P.cells.length : Int) + (d.length : Int)) % _ = _
    rw [Int.emod_add_emod]
    congr 1
    simp
    omega
theorem bytes_pos {s : Br} (h : s.ok) (d : List Int) : (s.bytes d).pos = (s.pos + (d.length : Int)) % s.n := bytes_pos' s d h.a0 h.a1
theorem bytes_at (s : Br) (h0 : 0 ≤ s.pos) (h1 : s.pos < (s.P.cells.length : Int)) (d : List Int) (hd : d.length ≤ s.P.cells.length) :
    (∀ (i : Nat) (hi : i < d.length), (s.bytes d).P.at ((s.pos + (i : Int)) % (s.P.cells.length : Int)) = s.char d[i] false) ∧
    (∀ j : Int, 0 ≤ j → j < (s.P.cells.length : Int) → (∀ i : Nat, i < d.length → j ≠ (s.pos + (i : Int)) % (s.P.cells.length : Int)) → (s.bytes d).P.at j = s.P.at j) := by
  have hN : (0 : Int) < (s.P.cells.length : Int) := by omega
  -- forward: the first k bytes
  have key : ∀ k : Nat, k ≤ d.length → (s.bytes (d.take k)).P.cells.length = s.P.cells.length ∧ (s.bytes (d.take k)).look = s.look ∧ (s.bytes (d.take k)).pos = (s.pos + (k : Int)) % (s.P.cells.length : Int) ∧
      (∀ (i : Nat) (hi : i < d.length), i < k → (s.bytes (d.take k)).P.at ((s.pos + (i : Int)) % (s.P.cells.length : Int)) = s.char d[i] false) ∧
      (∀ j : Int, 0 ≤ j → j < (s.P.cells.length : Int) → (∀ i : Nat, i < k → j ≠ (s.pos + (i : Int)) % (s.P.cells.length : Int)) → (s.bytes (d.take k)).P.at j = s.P.at j) := by
    intro k
    induction k with
    | zero => intro _; exact ⟨rfl, rfl, by show s.pos = _; simp; exact (Int.emod_eq_of_lt h0 h1).symm, fun i hi hk => absurd hk (Nat.not_lt_zero _), fun j _ _ _ => rfl⟩
    | succ k ih =>
      intro hk
      obtain ⟨e1, e2, e3, e4, e5⟩ := ih (by omega)
      rw [s.bytes_take d k (by omega)]
      obtain ⟨t, ht⟩ : ∃ t, s.bytes (d.take k) = t := ⟨_, rfl⟩
      rw [ht] at e1 e2 e3 e4 e5 ⊢
      have p0 : 0 ≤ t.pos := by rw [e3]; exact Int.emod_nonneg _ (by omega)
      have p1 : t.pos < (t.P.cells.length : Int) := by rw [e3, e1]; exact Int.emod_lt_of_pos _ hN
      have hat : ∀ j, (t.lay (t.char d[k] false)).P.at j = if j = t.pos then t.char d[k] false else t.P.at j := fun j => t.P.at_set _ _ p0 p1 j
      have hc : t.char d[k] false = s.char d[k] false := by unfold Br.char; rw [e2]
      refine ⟨(t.lay_len _).trans e1, e2, ?_, fun i hi hik => ?_, fun j j0 j1 hj => ?_⟩
      · show (t.pos + 1) % (t.P.cells.length : Int) = _
        rw [e3, e1, Int.emod_add_emod]
        congr 1
        push_cast
        omega
      · rw [hat]
        by_cases e : i = k
        · subst e
          rw [if_pos e3.symm, hc]
        · have hne : (s.pos + (i : Int)) % (s.P.cells.length : Int) ≠ t.pos := by
            rw [e3]
            intro he
            have := Int.emod_emod_of_dvd
            have h3 : ((s.pos + (k : Int)) - (s.pos + (i : Int))) % (s.P.cells.length : Int) = 0 := Int.emod_eq_zero_of_dvd (Int.dvd_of_emod_eq_zero (by rw [Int.sub_emod, he]; simp))
            rw [Int.emod_eq_of_lt (by omega) (by omega)] at h3
            omega
          rw [if_neg hne]
          exact e4 i hi (by omega)
      · rw [hat, if_neg (by rw [e3]; exact hj k (by omega))]
        exact e5 j j0 j1 (fun i hi => hj i (by omega))
  have := key d.length (Nat.le_refl _)
  rw [List.take_length] at this
  exact ⟨fun i hi => this.2.2.2.1 i hi hi, this.2.2.2.2⟩

theorem wipeL_spec {P : Pl} (hok : P.ok) (l : List Int) (hl : ∀ x ∈ l, 0 ≤ x ∧ x < (P.cells.length : Int)) :
    SameF P (P.wipeL l) ∧ ∀ j, (P.wipeL l).at j = if j ∈ l ∧ P.openAt j = true then Cell.zero else P.at j := by
  have key : ∀ k : Nat, k ≤ l.length → SameF P (P.wipeL (l.take k)) ∧ ∀ j, (P.wipeL (l.take k)).at j = if j ∈ l.take k ∧ P.openAt j = true then Cell.zero else P.at j := by
    intro k
    induction k with
    | zero => intro _; exact ⟨SameF.refl P, fun j => by simp [Pl.wipeL]⟩
    | succ k ih =>
      intro hk
      obtain ⟨h1, h2⟩ := ih (by omega)
      have hkl : k < l.length := by omega
      have hx := hl l[k] (List.getElem_mem hkl)
      rw [wipeL_take P l k hkl, h1.openAt hok]
      have hmem : ∀ j, j ∈ l.take (k + 1) ↔ j ∈ l.take k ∨ j = l[k] := by
        intro j
        rw [List.take_add_one, List.getElem?_eq_getElem hkl, List.mem_append]
        show _ ∨ j ∈ [l[k]] ↔ _
        rw [List.mem_singleton]
      obtain ⟨Q, hQ⟩ : ∃ Q, P.wipeL (l.take k) = Q := ⟨_, rfl⟩
      rw [hQ] at h1 h2 ⊢
      cases hop : P.openAt l[k]
      · rw [if_neg (by simp)]
        refine ⟨h1, fun j => ?_⟩
        rw [h2]
        by_cases hj : j ∈ l.take k ∧ P.openAt j = true
        · rw [if_pos hj, if_pos ⟨(hmem j).2 (.inl hj.1), hj.2⟩]
        · rw [if_neg hj, if_neg (fun h => by
            rcases (hmem j).1 h.1 with h3 | h3
            · exact hj ⟨h3, h.2⟩
            · rw [h3, hop] at h; cases h.2)]
      · rw [if_pos rfl]
        have hlen := h1.st.len
        have hat : ∀ j, (Q.set l[k] Cell.zero).at j = if j = l[k] then Cell.zero else Q.at j := fun j => Q.at_set _ _ hx.1 (by rw [hlen]; exact hx.2) j
        have hst : (P.at l[k]).start = false := by
          cases hs : (P.at l[k]).start
          · rfl
          · rw [st_shut hok _ hs] at hop; cases hop
        refine ⟨⟨h1.st.set hx.1 (by rw [hlen]; exact hx.2) (by rw [hst]; rfl), fun s hs => ?_⟩, fun j => ?_⟩
        · rw [hat, if_neg (fun e => by rw [e, hst] at hs; cases hs)]
          exact h1.by' s hs
        · rw [hat, h2]
          by_cases e : j = l[k]
          · rw [if_pos e, if_pos ⟨(hmem j).2 (.inr e), by rw [e]; exact hop⟩]
          · rw [if_neg e]
            by_cases hj : j ∈ l.take k ∧ P.openAt j = true
            · rw [if_pos hj, if_pos ⟨(hmem j).2 (.inl hj.1), hj.2⟩]
            · rw [if_neg hj, if_neg (fun h => by
                rcases (hmem j).1 h.1 with h3 | h3
                · exact hj ⟨h3, h.2⟩
                · exact e h3)]
  have := key l.length (Nat.le_refl _)
  rw [List.take_length] at this
  exact this
theorem gap_spec (P : Pl) (a : Int) (ha : 0 ≤ a ∧ a < (P.cells.length : Int)) : a + (P.gap a : Int) ≤ (P.cells.length : Int) ∧ ∀ j, a ≤ j → j < a + (P.gap a : Int) → (P.at j).start = false := by
  unfold Pl.gap
  cases h : srch ((P.cells.length : Int) - a).toNat fun i => (P.at (a + (i : Int))).start with
  | none =>
    have h1 := srch_of_none h
    refine ⟨by simp; omega, fun j j0 j1 => ?_⟩
    have := h1 (j - a).toNat (by simp at j1; omega)
    rw [show a + (((j - a).toNat : Nat) : Int) = j by omega] at this
    exact this
  | some k =>
    obtain ⟨h1, h2, h3⟩ := srch_of_some h
    refine ⟨by simp; omega, fun j j0 j1 => ?_⟩
    have := h3 (j - a).toNat (by simp at j1; omega)
    rw [show a + (((j - a).toNat : Nat) : Int) = j by omega] at this
    exact this
theorem rest_at' {s : Br} (h : s.ok) (j : Int) : s.rest.P.at j = if s.pos ≤ j ∧ j < s.pos + (s.P.gap s.pos : Int) then Cell.zero else s.P.at j := by
  have hg := gap_spec s.P s.pos ⟨h.a0, h.a1⟩
  have ha := h.a0
  show (s.P.clr _).at j = _
  rw [clr_at _ _ (fun x hx => by have := (nints_mem _ _ x).1 hx; omega)]
  by_cases hj : s.pos ≤ j ∧ j < s.pos + (s.P.gap s.pos : Int)
  · rw [if_pos hj, if_pos ((nints_mem _ _ _).2 hj)]
  · rw [if_neg hj, if_neg (fun e => hj ((nints_mem _ _ _).1 e))]
end Go.Proofs.Ytbkddgeocmkegaa

namespace Go.Proofs.Ytbkddgeocmkegaa
open Go.RowKit Go.Shelf
set_option linter.unusedSimpArgs false
set_option linter.unusedVariables false
set_option maxHeartbeats 2000000
attribute [local go_sem ↓] run_start run_byte run_cols

theorem gap_end (P : Pl) (a : Int) (ha : 0 ≤ a ∧ a < (P.cells.length : Int)) (h : a + (P.gap a : Int) < (P.cells.length : Int)) : (P.at (a + (P.gap a : Int))).start = true := by
  unfold Pl.gap at h ⊢
  cases hs : srch ((P.cells.length : Int) - a).toNat fun i => (P.at (a + (i : Int))).start with
  | none => rw [hs] at h; simp at h; omega
  | some k => exact (srch_of_some hs).2.1

variable {w : World} {u g b cap : Nat} {s : Br}
theorem rest_any (x : BrL w u g b cap s) :
    Calls Try.prog 206 #[.pointer (some ⟨u, 0, none⟩)] w fun e w' => e = .returned (.tuple #[]) ∧ BrL w' u g b cap s.rest ∧ Chg (· = b) w w' := by
  have hn := Pl.N_le x.ok.p
  obtain ⟨a0, a1⟩ := And.intro x.ok.a0 x.ok.a1
  have n2 := x.n2
  obtain ⟨hg1, hg2⟩ := gap_spec s.P s.pos ⟨a0, a1⟩
  have hg3 := gap_end s.P s.pos ⟨a0, a1⟩
  have c1 := x.c1
  obtain ⟨G, hG⟩ : ∃ G, s.P.gap s.pos = G := ⟨_, rfl⟩
  have HR : Hid (s.rest = { s with P := s.P.clr (nints s.pos G) }) := by unfold Br.rest; rw [hG]; exact rfl
  rw [hG] at hg1 hg2 hg3
  have HG2 := Lib.hid hg2
  have HG3 := Lib.hid hg3
  clear hG hg2 hg3
  have hsame := fun k => clr_same s.P (nints s.pos k)
  have hat := fun (k : Nat) (hk : k ≤ G) => clr_at s.P (nints s.pos k) (fun y hy => by have := (nints_mem _ _ y).1 hy; omega)
  have hstep : ∀ k, s.P.clr (nints s.pos (k + 1)) = (s.P.clr (nints s.pos k)).set (s.pos + (k : Int)) Cell.zero := fun k => by rw [nints_succ]; exact clr_snoc _ _ _
  go_enter Try.func206, Try.ntmps206
  go_wp2
  go_loopw [2] (fun i wr => ∃ k : Nat, k ≤ G ∧ i = .int .i64 (s.pos + (k : Int)) ∧ BrL wr u g b cap { s with P := s.P.clr (nints s.pos k) } ∧ Chg (· = b) w wr) (fun i _ => (4096 - intOf i).toNat)
  case atStart => exact ⟨0, Nat.zero_le _, by simp, x, Chg.refl _ _⟩
  case round =>
    obtain ⟨k, hk, rfl, hx, hC⟩ := hrel
    have hlen := (hsame k).2.2.1
    have hatk := hat k hk (s.pos + (k : Int))
    rw [if_neg (by rw [nints_mem]; omega)] at hatk
    have hst := hstep k
    obtain ⟨Q, hQ⟩ : ∃ Q, s.P.clr (nints s.pos k) = Q := ⟨_, rfl⟩
    rw [hQ] at hx hlen hatk hst
    have HST := Lib.hid hst
    have HQ := Lib.hid hQ
    clear hst hQ hsame hat hstep
    have c0 := hx.c0
    have hlen' : (Q.cells.length : Int) = (s.P.cells.length : Int) := by rw [hlen]
    have hwrap : IntKind.i64.wrap (s.pos + (k : Int) + 1) = s.pos + (k : Int) + 1 := IntWalk.i64_in _ (by omega)
    obtain ⟨p, hp⟩ : ∃ p, s.pos + (k : Int) = p := ⟨_, rfl⟩
    rw [hp] at hatk HST hwrap
    have hp0 : 0 ≤ p := by omega
    have hp4 : p ≤ 4096 := by omega
    by_cases hlt : k < G
    · have hns := HG2.out p (by omega) (by omega)
      have hpn : p < (Q.cells.length : Int) := by omega
      have hp5 : p < 4096 := by omega
      obtain ⟨⟨cb, cg, cst, cl, cc⟩, hc⟩ : ∃ c, s.P.at p = c := ⟨_, rfl⟩
      rw [hc] at hatk hns
      simp only at hns
      subst hns
      have HA := Lib.hid hatk
      clear hatk hc hlen hlen'
      rw [hp]
      have HP := Lib.hid hp
      clear hp
      go_wp2_with fail
      refine (Len_any hx.pl).mono ?_
      rintro e w1 ⟨rfl, hb1⟩
      have hx1 := hx.below hb1
      have d0 := hx1.c0
      have hC1 := hC.trans (Chg.of_below hb1)
      clear hb1 hC
      go_wp2_with fail
      refine (At_any hx1.pl p).mono ?_
      rw [HA.out]
      rintro e w2 ⟨rfl, hb2⟩
      have hx2 := hx1.below hb2
      have d2 := hx2.c0
      have hC2 := hC1.trans (Chg.of_below hb2)
      clear hb2 hC1
      go_wp2_with fail
      refine (Set_in hx2.pl p Cell.zero hp0 hpn Cell.zero_ok).mono ?_
      rintro e w3 ⟨rfl, hP3, hk3⟩
      have hx3 := hx2.turn hk3 n2 hP3 (Q.set_len _ _)
      have hC3 := hC2.trans hk3
      clear hk3 hC2
      go_wp2
      go_roundw
      case rel => exact ⟨k + 1, by omega, by have := HP.out; rw [← this]; go_num, by rw [HST.out]; exact hx3, hC3⟩
      case measure => simp [intOf]; omega
    · have ek : k = G := by omega
      subst ek
      have HRR : Hid (s.rest = { s with P := Q }) := by rw [HR.out, HQ.out]; exact rfl
      by_cases hend : p < (Q.cells.length : Int)
      · have hs1 := HG3.out (by omega)
        rw [hp] at hs1
        obtain ⟨⟨cb, cg, cst, cl, cc⟩, hc⟩ : ∃ c, s.P.at p = c := ⟨_, rfl⟩
        rw [hc] at hatk hs1
        simp only at hs1
        subst hs1
        have HA := Lib.hid hatk
        clear hatk hc hlen hlen'
        rw [hp]
        clear hp
        go_wp2_with fail
        refine (Len_any hx.pl).mono ?_
        rintro e w1 ⟨rfl, hb1⟩
        have hx1 := hx.below hb1
        have d0 := hx1.c0
        have hC1 := hC.trans (Chg.of_below hb1)
        clear hb1 hC
        go_wp2_with fail
        refine (At_any hx1.pl p).mono ?_
        rw [HA.out]
        rintro e w2 ⟨rfl, hb2⟩
        have hx2 := hx1.below hb2
        have hC2 := hC1.trans (Chg.of_below hb2)
        clear hb2 hC1
        go_wp2
        go_end0
        exact ⟨rfl, by rw [HRR.out]; exact hx2, hC2⟩
      · have hge : (Q.cells.length : Int) ≤ p := by omega
        clear hatk hlen hlen'
        rw [hp]
        clear hp
        go_wp2_with fail
        refine (Len_any hx.pl).mono ?_
        rintro e w1 ⟨rfl, hb1⟩
        have hx1 := hx.below hb1
        have hC1 := hC.trans (Chg.of_below hb1)
        clear hb1 hC
        go_wp2
        go_end0
        exact ⟨rfl, by rw [HRR.out]; exact hx1, hC1⟩


theorem tab_no (x : BrL w u g b cap s) (o : Ord) (r : ORef) (hl : s.laid = false) :
    Calls Try.prog 175 #[.pointer (some ⟨u, 0, none⟩), OVal o r] w fun e w' => e = .returned (.int .i64 0) ∧ BrL w' u g b cap s.tab ∧ Chg (SB u b) w w' := by
  have hn := Pl.N_le x.ok.p
  obtain ⟨a0, a1⟩ := And.intro x.ok.a0 x.ok.a1
  have c0 := x.c0
  have c1 := x.c1
  have c7 := x.c7
  have hul := x.hl
  rw [hl] at c7
  have HT : Hid (s.tab = s.seekTab) := by unfold Br.tab; rw [hl]; exact rfl
  clear hl
  unfold OVal
  go_enter Try.func175, Try.ntmps175
  go_wp2
  obtain ⟨wt, hwt⟩ : ∃ wt, w.alloc (.cells #[.int .u8 o.kind, .int .i64 o.addr, .int .u8 o.byte, .bool o.ge, .slice r.pa o.pairs.length r.pc, .slice r.da o.data.length r.dc] 110) = wt := ⟨_, rfl⟩
  have hBt : Below w.heap.size w wt := by rw [← hwt]; with_reducible (repeat (first | exact Below.refl _ _ | assumption | (refine Below.setCell ?_ (by first | omega | (simp; done) | (simp; omega)) _) | (refine Below.alloc ?_ (by first | omega | (simp; done) | (simp; omega)) _) | (refine below_drewN ?_ _) | (refine Below.drew ?_) | (refine Below.trans ?_ (Below.mono hb (by first | omega | (simp; done) | (simp; omega)))) | (refine Below.trans ?_ (Below.mono hb1 (by first | omega | (simp; done) | (simp; omega)))) | (refine Below.trans ?_ (Below.mono hb2 (by first | omega | (simp; done) | (simp; omega)))) | (refine Below.trans ?_ (Below.mono hb3 (by first | omega | (simp; done) | (simp; omega)))) | (refine Below.trans ?_ (Below.mono hb4 (by first | omega | (simp; done) | (simp; omega)))) | (refine Below.trans ?_ (Below.mono hb5 (by first | omega | (simp; done) | (simp; omega)))) | (refine Below.trans ?_ (Below.mono hb6 (by first | omega | (simp; done) | (simp; omega)))) | (refine Below.trans ?_ (Below.mono hb7 (by first | omega | (simp; done) | (simp; omega)))) | (refine Below.trans ?_ (Below.mono hb8 (by first | omega | (simp; done) | (simp; omega)))) | (refine Below.trans ?_ (Below.mono hb9 (by first | omega | (simp; done) | (simp; omega)))) | (refine Below.trans ?_ (Below.mono hb10 (by first | omega | (simp; done) | (simp; omega)))) | (refine Below.trans ?_ (Below.mono hb11 (by first | omega | (simp; done) | (simp; omega)))) | (refine Below.trans ?_ (Below.mono hb12 (by first | omega | (simp; done) | (simp; omega))))))
  have xt := x.below hBt
  rw [hwt]
  clear hwt
  go_loopw [5] (fun i wr => ∃ k : Nat, (k : Int) ≤ (s.P.cells.length : Int) - s.pos ∧ (∀ j, j < k → ((s.P.at (s.pos + (j : Int))).start && !prot (s.P.at (s.pos + (j : Int))).byte) = false) ∧ i = .int .i64 (s.pos + (k : Int)) ∧ BrL wr u g b cap s ∧ Below wt.heap.size wt wr) (fun i _ => (4096 - intOf i).toNat)
  case atStart => exact ⟨0, by simp; omega, fun j hj => absurd hj (Nat.not_lt_zero _), by simp, xt, Below.refl _ _⟩
  case round =>
    obtain ⟨k, hk, hno, rfl, hx, hB⟩ := hrel
    have HNO := Lib.hid hno
    clear hno
    have hz := hB.size
    have c0 := hx.c0
    have hok := hx.ok
    by_cases hlt : (k : Int) < (s.P.cells.length : Int) - s.pos
    · obtain ⟨⟨cb, cg, cst, cl, cc⟩, hc⟩ : ∃ c, s.P.at (s.pos + (k : Int)) = c := ⟨_, rfl⟩
      have hbr := (Pl.at_ok hok.p (s.pos + (k : Int))).1
      rw [hc] at hbr
      simp only at hbr
      have hwrap : IntKind.i64.wrap (s.pos + (k : Int) + 1) = s.pos + (k : Int) + 1 := IntWalk.i64_in _ (by omega)
      obtain ⟨p, hp⟩ : ∃ p, s.pos + (k : Int) = p := ⟨_, rfl⟩
      rw [hp] at hc hwrap
      have hp0 : 0 ≤ p := by omega
      have hpn : p < (s.P.cells.length : Int) := by omega
      rw [hp]
      have HP := Lib.hid hp
      have HC := Lib.hid hc
      clear hp hc
      go_wp2_with fail
      refine (Len_any hx.pl).mono ?_
      rintro e w1 ⟨rfl, hb1⟩
      have hx1 := hx.below hb1
      have hB1 := hB.trans (hb1.mono hz)
      have d0 := hx1.c0
      have hz1 := hB1.size
      clear hb1 hB
      go_wp2_with fail
      refine (At_any hx1.pl p).mono ?_
      rw [HC.out]
      rintro e w2 ⟨rfl, hb2⟩
      have hx2 := hx1.below hb2
      have hB2 := hB1.trans (hb2.mono hz1)
      have d2 := hx2.c0
      have hz2 := hB2.size
      clear hb2 hB1
      have hx2' := hx2.below (w' := w2.alloc (.cells #[.int .u8 cb, .bool cg, .bool cst, .int .u8 cl, .int .u8 cc] 96)) (by with_reducible (repeat (first | exact Below.refl _ _ | assumption | (refine Below.setCell ?_ (by first | omega | (simp; done) | (simp; omega)) _) | (refine Below.alloc ?_ (by first | omega | (simp; done) | (simp; omega)) _) | (refine below_drewN ?_ _) | (refine Below.drew ?_) | (refine Below.trans ?_ (Below.mono hb (by first | omega | (simp; done) | (simp; omega)))) | (refine Below.trans ?_ (Below.mono hb1 (by first | omega | (simp; done) | (simp; omega)))) | (refine Below.trans ?_ (Below.mono hb2 (by first | omega | (simp; done) | (simp; omega)))) | (refine Below.trans ?_ (Below.mono hb3 (by first | omega | (simp; done) | (simp; omega)))) | (refine Below.trans ?_ (Below.mono hb4 (by first | omega | (simp; done) | (simp; omega)))) | (refine Below.trans ?_ (Below.mono hb5 (by first | omega | (simp; done) | (simp; omega)))) | (refine Below.trans ?_ (Below.mono hb6 (by first | omega | (simp; done) | (simp; omega)))) | (refine Below.trans ?_ (Below.mono hb7 (by first | omega | (simp; done) | (simp; omega)))) | (refine Below.trans ?_ (Below.mono hb8 (by first | omega | (simp; done) | (simp; omega)))) | (refine Below.trans ?_ (Below.mono hb9 (by first | omega | (simp; done) | (simp; omega)))) | (refine Below.trans ?_ (Below.mono hb10 (by first | omega | (simp; done) | (simp; omega)))) | (refine Below.trans ?_ (Below.mono hb11 (by first | omega | (simp; done) | (simp; omega)))) | (refine Below.trans ?_ (Below.mono hb12 (by first | omega | (simp; done) | (simp; omega)))))))
      cases cst
      · go_wp2
        go_roundw
        case rel =>
          refine ⟨k + 1, by omega, fun j hj => ?_, by have := HP.out; rw [← this]; go_num, hx2', by with_reducible (repeat (first | exact Below.refl _ _ | assumption | (refine Below.setCell ?_ (by first | omega | (simp; done) | (simp; omega)) _) | (refine Below.alloc ?_ (by first | omega | (simp; done) | (simp; omega)) _) | (refine below_drewN ?_ _) | (refine Below.drew ?_) | (refine Below.trans ?_ (Below.mono hb (by first | omega | (simp; done) | (simp; omega)))) | (refine Below.trans ?_ (Below.mono hb1 (by first | omega | (simp; done) | (simp; omega)))) | (refine Below.trans ?_ (Below.mono hb2 (by first | omega | (simp; done) | (simp; omega)))) | (refine Below.trans ?_ (Below.mono hb3 (by first | omega | (simp; done) | (simp; omega)))) | (refine Below.trans ?_ (Below.mono hb4 (by first | omega | (simp; done) | (simp; omega)))) | (refine Below.trans ?_ (Below.mono hb5 (by first | omega | (simp; done) | (simp; omega)))) | (refine Below.trans ?_ (Below.mono hb6 (by first | omega | (simp; done) | (simp; omega)))) | (refine Below.trans ?_ (Below.mono hb7 (by first | omega | (simp; done) | (simp; omega)))) | (refine Below.trans ?_ (Below.mono hb8 (by first | omega | (simp; done) | (simp; omega)))) | (refine Below.trans ?_ (Below.mono hb9 (by first | omega | (simp; done) | (simp; omega)))) | (refine Below.trans ?_ (Below.mono hb10 (by first | omega | (simp; done) | (simp; omega)))) | (refine Below.trans ?_ (Below.mono hb11 (by first | omega | (simp; done) | (simp; omega)))) | (refine Below.trans ?_ (Below.mono hb12 (by first | omega | (simp; done) | (simp; omega))))))⟩
          by_cases e : j < k
          · exact HNO.out j e
          · have : j = k := by omega
            rw [this, HP.out, HC.out]; rfl
        case measure => simp [intOf]; omega
      · cases hpr : prot cb
        · have HPR := Lib.hid hpr
          clear hpr
          go_wp2_with fail
          refine (Protected_any cb _ hbr).mono ?_
          rw [HPR.out]
          rintro e w3 ⟨rfl, hb3⟩
          have hx3 := hx2'.below hb3
          have hB3 : Below wt.heap.size wt w3 := by with_reducible (repeat (first | exact Below.refl _ _ | assumption | (refine Below.setCell ?_ (by first | omega | (simp; done) | (simp; omega)) _) | (refine Below.alloc ?_ (by first | omega | (simp; done) | (simp; omega)) _) | (refine below_drewN ?_ _) | (refine Below.drew ?_) | (refine Below.trans ?_ (Below.mono hb (by first | omega | (simp; done) | (simp; omega)))) | (refine Below.trans ?_ (Below.mono hb1 (by first | omega | (simp; done) | (simp; omega)))) | (refine Below.trans ?_ (Below.mono hb2 (by first | omega | (simp; done) | (simp; omega)))) | (refine Below.trans ?_ (Below.mono hb3 (by first | omega | (simp; done) | (simp; omega)))) | (refine Below.trans ?_ (Below.mono hb4 (by first | omega | (simp; done) | (simp; omega)))) | (refine Below.trans ?_ (Below.mono hb5 (by first | omega | (simp; done) | (simp; omega)))) | (refine Below.trans ?_ (Below.mono hb6 (by first | omega | (simp; done) | (simp; omega)))) | (refine Below.trans ?_ (Below.mono hb7 (by first | omega | (simp; done) | (simp; omega)))) | (refine Below.trans ?_ (Below.mono hb8 (by first | omega | (simp; done) | (simp; omega)))) | (refine Below.trans ?_ (Below.mono hb9 (by first | omega | (simp; done) | (simp; omega)))) | (refine Below.trans ?_ (Below.mono hb10 (by first | omega | (simp; done) | (simp; omega)))) | (refine Below.trans ?_ (Below.mono hb11 (by first | omega | (simp; done) | (simp; omega)))) | (refine Below.trans ?_ (Below.mono hb12 (by first | omega | (simp; done) | (simp; omega))))))
          have d3 := hx3.c0
          have d4 := hx3.c1
          have fz3 := hx3.fz
          have hz3 := hB3.size
          clear hb3
          go_wp2_with fail
          refine (Size_any hx3.pl).mono ?_
          rintro e w4 ⟨rfl, hb4⟩
          have hx4 := hx3.below hb4
          have hB4 := hB3.trans (hb4.mono hz3)
          have fz4 := hx4.fz
          have d5 := hx4.c1
          have hz4 := hB4.size
          clear hb4
          go_wp2_with fail
          refine (Move_P hok.p _ _ _).mono ?_
          rintro e w5 ⟨rfl, hb5⟩
          have hx5 := hx4.below hb5
          have hB5 := hB4.trans (hb5.mono hz4)
          have fz5 := hx5.fz
          have d6 := hx5.c1
          have hr := Pl.emod_range hok.p (p + 1)
          clear hb5
          go_wp2
          go_ret
          refine ⟨rfl, ?_, (Chg.of_below hBt).trans ((Chg.of_below hB5).setCell (.inl (.inl rfl)) _)⟩
          have e1 : s.P.nextOpen s.pos = some k := srch_some (by omega) (by show ((s.P.at _).start && _) = true; rw [HP.out, HC.out]; show (true && !prot cb) = true; rw [HPR.out]; rfl) (fun j hj => HNO.out j hj)
          have e2 : s.seekTab = { s with pos := (p + 1) % (s.P.cells.length : Int) } := by unfold Br.seekTab; rw [e1]; show ({ s with pos := (s.pos + (k : Int) + 1) % s.n } : Br) = _; rw [HP.out]
          rw [HT.out, e2]
          exact hx5.move hr.1 hr.2
        · have HPR := Lib.hid hpr
          clear hpr
          go_wp2_with fail
          refine (Protected_any cb _ hbr).mono ?_
          rw [HPR.out]
          rintro e w3 ⟨rfl, hb3⟩
          have hx3 := hx2'.below hb3
          have hB3 : Below wt.heap.size wt w3 := by with_reducible (repeat (first | exact Below.refl _ _ | assumption | (refine Below.setCell ?_ (by first | omega | (simp; done) | (simp; omega)) _) | (refine Below.alloc ?_ (by first | omega | (simp; done) | (simp; omega)) _) | (refine below_drewN ?_ _) | (refine Below.drew ?_) | (refine Below.trans ?_ (Below.mono hb (by first | omega | (simp; done) | (simp; omega)))) | (refine Below.trans ?_ (Below.mono hb1 (by first | omega | (simp; done) | (simp; omega)))) | (refine Below.trans ?_ (Below.mono hb2 (by first | omega | (simp; done) | (simp; omega)))) | (refine Below.trans ?_ (Below.mono hb3 (by first | omega | (simp; done) | (simp; omega)))) | (refine Below.trans ?_ (Below.mono hb4 (by first | omega | (simp; done) | (simp; omega)))) | (refine Below.trans ?_ (Below.mono hb5 (by first | omega | (simp; done) | (simp; omega)))) | (refine Below.trans ?_ (Below.mono hb6 (by first | omega | (simp; done) | (simp; omega)))) | (refine Below.trans ?_ (Below.mono hb7 (by first | omega | (simp; done) | (simp; omega)))) | (refine Below.trans ?_ (Below.mono hb8 (by first | omega | (simp; done) | (simp; omega)))) | (refine Below.trans ?_ (Below.mono hb9 (by first | omega | (simp; done) | (simp; omega)))) | (refine Below.trans ?_ (Below.mono hb10 (by first | omega | (simp; done) | (simp; omega)))) | (refine Below.trans ?_ (Below.mono hb11 (by first | omega | (simp; done) | (simp; omega)))) | (refine Below.trans ?_ (Below.mono hb12 (by first | omega | (simp; done) | (simp; omega))))))
          clear hb3
          go_wp2
          go_roundw
          case rel =>
            refine ⟨k + 1, by omega, fun j hj => ?_, by have := HP.out; rw [← this]; go_num, hx3, hB3⟩
            by_cases e : j < k
            · exact HNO.out j e
            · have : j = k := by omega
              rw [this, HP.out, HC.out]
              show (true && !prot cb) = false
              rw [HPR.out]; rfl
          case measure => simp [intOf]; omega
    · have hge : (s.P.cells.length : Int) ≤ s.pos + (k : Int) := by omega
      have hp4 : s.pos + (k : Int) ≤ 4096 := by omega
      have hp0 : 0 ≤ s.pos + (k : Int) := by omega
      have d4 := hx.c1
      have fz := hx.fz
      go_wp2_with fail
      refine (Len_any hx.pl).mono ?_
      rintro e w1 ⟨rfl, hb1⟩
      have hx1 := hx.below hb1
      have hB5 := hB.trans (hb1.mono hz)
      have fz1 := hx1.fz
      have d5 := hx1.c1
      clear hb1
      go_wp2
      go_ret
      refine ⟨rfl, ?_, (Chg.of_below hBt).trans ((Chg.of_below hB5).setCell (.inl (.inl rfl)) _)⟩
      have e1 : s.P.nextOpen s.pos = none := srch_none (fun j hj => HNO.out j (by omega))
      have e2 : s.seekTab = { s with pos := 0 } := by unfold Br.seekTab; rw [e1]
      rw [HT.out, e2]
      exact hx1.move (Int.le_refl _) (by omega)
theorem tab_yes (x : BrL w u g b cap s) (o : Ord) (r : ORef) (hl : s.laid = true) :
    Calls Try.prog 175 #[.pointer (some ⟨u, 0, none⟩), OVal o r] w fun e w' => e = .returned (.int .i64 0) ∧ BrL w' u g b cap s.tab ∧ Chg (SB u b) w w' := by
  have c7 := x.c7
  have hul := x.hl
  rw [hl] at c7
  have HT : Hid (s.tab = s.rest.seekTab) := by unfold Br.tab; rw [hl]; exact rfl
  clear hl
  unfold OVal
  go_enter Try.func175, Try.ntmps175
  go_wp2_with fail
  refine (rest_any (x.below (by with_reducible (repeat (first | exact Below.refl _ _ | assumption | (refine Below.setCell ?_ (by first | omega | (simp; done) | (simp; omega)) _) | (refine Below.alloc ?_ (by first | omega | (simp; done) | (simp; omega)) _) | (refine below_drewN ?_ _) | (refine Below.drew ?_) | (refine Below.trans ?_ (Below.mono hb (by first | omega | (simp; done) | (simp; omega)))) | (refine Below.trans ?_ (Below.mono hb1 (by first | omega | (simp; done) | (simp; omega)))) | (refine Below.trans ?_ (Below.mono hb2 (by first | omega | (simp; done) | (simp; omega)))) | (refine Below.trans ?_ (Below.mono hb3 (by first | omega | (simp; done) | (simp; omega)))) | (refine Below.trans ?_ (Below.mono hb4 (by first | omega | (simp; done) | (simp; omega)))) | (refine Below.trans ?_ (Below.mono hb5 (by first | omega | (simp; done) | (simp; omega)))) | (refine Below.trans ?_ (Below.mono hb6 (by first | omega | (simp; done) | (simp; omega)))) | (refine Below.trans ?_ (Below.mono hb7 (by first | omega | (simp; done) | (simp; omega)))) | (refine Below.trans ?_ (Below.mono hb8 (by first | omega | (simp; done) | (simp; omega)))) | (refine Below.trans ?_ (Below.mono hb9 (by first | omega | (simp; done) | (simp; omega)))) | (refine Below.trans ?_ (Below.mono hb10 (by first | omega | (simp; done) | (simp; omega)))) | (refine Below.trans ?_ (Below.mono hb11 (by first | omega | (simp; done) | (simp; omega)))) | (refine Below.trans ?_ (Below.mono hb12 (by first | omega | (simp; done) | (simp; omega))))))))).mono ?_
  obtain ⟨tt, ht⟩ : ∃ tt, s.rest = tt := ⟨_, rfl⟩
  have HTT := Lib.hid ht
  rw [ht] at HT ⊢
  clear ht
  rintro e wt ⟨rfl, xt, hkt⟩
  have hBt : Chg (· = b) w wt := chg_bel (by with_reducible (repeat (first | exact Below.refl _ _ | assumption | (refine Below.setCell ?_ (by first | omega | (simp; done) | (simp; omega)) _) | (refine Below.alloc ?_ (by first | omega | (simp; done) | (simp; omega)) _) | (refine below_drewN ?_ _) | (refine Below.drew ?_) | (refine Below.trans ?_ (Below.mono hb (by first | omega | (simp; done) | (simp; omega)))) | (refine Below.trans ?_ (Below.mono hb1 (by first | omega | (simp; done) | (simp; omega)))) | (refine Below.trans ?_ (Below.mono hb2 (by first | omega | (simp; done) | (simp; omega)))) | (refine Below.trans ?_ (Below.mono hb3 (by first | omega | (simp; done) | (simp; omega)))) | (refine Below.trans ?_ (Below.mono hb4 (by first | omega | (simp; done) | (simp; omega)))) | (refine Below.trans ?_ (Below.mono hb5 (by first | omega | (simp; done) | (simp; omega)))) | (refine Below.trans ?_ (Below.mono hb6 (by first | omega | (simp; done) | (simp; omega)))) | (refine Below.trans ?_ (Below.mono hb7 (by first | omega | (simp; done) | (simp; omega)))) | (refine Below.trans ?_ (Below.mono hb8 (by first | omega | (simp; done) | (simp; omega)))) | (refine Below.trans ?_ (Below.mono hb9 (by first | omega | (simp; done) | (simp; omega)))) | (refine Below.trans ?_ (Below.mono hb10 (by first | omega | (simp; done) | (simp; omega)))) | (refine Below.trans ?_ (Below.mono hb11 (by first | omega | (simp; done) | (simp; omega)))) | (refine Below.trans ?_ (Below.mono hb12 (by first | omega | (simp; done) | (simp; omega))))))) hkt
  have hn := Pl.N_le xt.ok.p
  obtain ⟨a0, a1⟩ := And.intro xt.ok.a0 xt.ok.a1
  have c0 := xt.c0
  have c1 := xt.c1
  clear hkt c7
  go_wp2
  go_loopw [5] (fun i wr => ∃ k : Nat, (k : Int) ≤ (tt.P.cells.length : Int) - tt.pos ∧ (∀ j, j < k → ((tt.P.at (tt.pos + (j : Int))).start && !prot (tt.P.at (tt.pos + (j : Int))).byte) = false) ∧ i = .int .i64 (tt.pos + (k : Int)) ∧ BrL wr u g b cap tt ∧ Below wt.heap.size wt wr) (fun i _ => (4096 - intOf i).toNat)
  case atStart => exact ⟨0, by simp; omega, fun j hj => absurd hj (Nat.not_lt_zero _), by simp, xt, Below.refl _ _⟩
  case round =>
    obtain ⟨k, hk, hno, rfl, hx, hB⟩ := hrel
    have HNO := Lib.hid hno
    clear hno
    have hz := hB.size
    have c0 := hx.c0
    have hok := hx.ok
    by_cases hlt : (k : Int) < (tt.P.cells.length : Int) - tt.pos
    · obtain ⟨⟨cb, cg, cst, cl, cc⟩, hc⟩ : ∃ c, tt.P.at (tt.pos + (k : Int)) = c := ⟨_, rfl⟩
      have hbr := (Pl.at_ok hok.p (tt.pos + (k : Int))).1
      rw [hc] at hbr
      simp only at hbr
      have hwrap : IntKind.i64.wrap (tt.pos + (k : Int) + 1) = tt.pos + (k : Int) + 1 := IntWalk.i64_in _ (by omega)
      obtain ⟨p, hp⟩ : ∃ p, tt.pos + (k : Int) = p := ⟨_, rfl⟩
      rw [hp] at hc hwrap
      have hp0 : 0 ≤ p := by omega
      have hpn : p < (tt.P.cells.length : Int) := by omega
      rw [hp]
      have HP := Lib.hid hp
      have HC := Lib.hid hc
      clear hp hc
      go_wp2_with fail
      refine (Len_any hx.pl).mono ?_
      rintro e w1 ⟨rfl, hb1⟩
      have hx1 := hx.below hb1
      have hB1 := hB.trans (hb1.mono hz)
      have d0 := hx1.c0
      have hz1 := hB1.size
      clear hb1 hB
      go_wp2_with fail
      refine (At_any hx1.pl p).mono ?_
      rw [HC.out]
      rintro e w2 ⟨rfl, hb2⟩
      have hx2 := hx1.below hb2
      have hB2 := hB1.trans (hb2.mono hz1)
      have d2 := hx2.c0
      have hz2 := hB2.size
      clear hb2 hB1
      have hx2' := hx2.below (w' := w2.alloc (.cells #[.int .u8 cb, .bool cg, .bool cst, .int .u8 cl, .int .u8 cc] 96)) (by with_reducible (repeat (first | exact Below.refl _ _ | assumption | (refine Below.setCell ?_ (by first | omega | (simp; done) | (simp; omega)) _) | (refine Below.alloc ?_ (by first | omega | (simp; done) | (simp; omega)) _) | (refine below_drewN ?_ _) | (refine Below.drew ?_) | (refine Below.trans ?_ (Below.mono hb (by first | omega | (simp; done) | (simp; omega)))) | (refine Below.trans ?_ (Below.mono hb1 (by first | omega | (simp; done) | (simp; omega)))) | (refine Below.trans ?_ (Below.mono hb2 (by first | omega | (simp; done) | (simp; omega)))) | (refine Below.trans ?_ (Below.mono hb3 (by first | omega | (simp; done) | (simp; omega)))) | (refine Below.trans ?_ (Below.mono hb4 (by first | omega | (simp; done) | (simp; omega)))) | (refine Below.trans ?_ (Below.mono hb5 (by first | omega | (simp; done) | (simp; omega)))) | (refine Below.trans ?_ (Below.mono hb6 (by first | omega | (simp; done) | (simp; omega)))) | (refine Below.trans ?_ (Below.mono hb7 (by first | omega | (simp; done) | (simp; omega)))) | (refine Below.trans ?_ (Below.mono hb8 (by first | omega | (simp; done) | (simp; omega)))) | (refine Below.trans ?_ (Below.mono hb9 (by first | omega | (simp; done) | (simp; omega)))) | (refine Below.trans ?_ (Below.mono hb10 (by first | omega | (simp; done) | (simp; omega)))) | (refine Below.trans ?_ (Below.mono hb11 (by first | omega | (simp; done) | (simp; omega)))) | (refine Below.trans ?_ (Below.mono hb12 (by first | omega | (simp; done) | (simp; omega)))))))
      cases cst
      · go_wp2
        go_roundw
        case rel =>
          refine ⟨k + 1, by omega, fun j hj => ?_, by have := HP.out; rw [← this]; go_num, hx2', by with_reducible (repeat (first | exact Below.refl _ _ | assumption | (refine Below.setCell ?_ (by first | omega | (simp; done) | (simp; omega)) _) | (refine Below.alloc ?_ (by first | omega | (simp; done) | (simp; omega)) _) | (refine below_drewN ?_ _) | (refine Below.drew ?_) | (refine Below.trans ?_ (Below.mono hb (by first | omega | (simp; done) | (simp; omega)))) | (refine Below.trans ?_ (Below.mono hb1 (by first | omega | (simp; done) | (simp; omega)))) | (refine Below.trans ?_ (Below.mono hb2 (by first | omega | (simp; done) | (simp; omega)))) | (refine Below.trans ?_ (Below.mono hb3 (by first | omega | (simp; done) | (simp; omega)))) | (refine Below.trans ?_ (Below.mono hb4 (by first | omega | (simp; done) | (simp; omega)))) | (refine Below.trans ?_ (Below.mono hb5 (by first | omega | (simp; done) | (simp; omega)))) | (refine Below.trans ?_ (Below.mono hb6 (by first | omega | (simp; done) | (simp; omega)))) | (refine Below.trans ?_ (Below.mono hb7 (by first | omega | (simp; done) | (simp; omega)))) | (refine Below.trans ?_ (Below.mono hb8 (by first | omega | (simp; done) | (simp; omega)))) | (refine Below.trans ?_ (Below.mono hb9 (by first | omega | (simp; done) | (simp; omega)))) | (refine Below.trans ?_ (Below.mono hb10 (by first | omega | (simp; done) | (simp; omega)))) | (refine Below.trans ?_ (Below.mono hb11 (by first | omega | (simp; done) | (simp; omega)))) | (refine Below.trans ?_ (Below.mono hb12 (by first | omega | (simp; done) | (simp; omega))))))⟩
          by_cases e : j < k
          · exact HNO.out j e
          · have : j = k := by omega
            rw [this, HP.out, HC.out]; rfl
        case measure => simp [intOf]; omega
      · cases hpr : prot cb
        · have HPR := Lib.hid hpr
          clear hpr
          go_wp2_with fail
          refine (Protected_any cb _ hbr).mono ?_
          rw [HPR.out]
          rintro e w3 ⟨rfl, hb3⟩
          have hx3 := hx2'.below hb3
          have hB3 : Below wt.heap.size wt w3 := by with_reducible (repeat (first | exact Below.refl _ _ | assumption | (refine Below.setCell ?_ (by first | omega | (simp; done) | (simp; omega)) _) | (refine Below.alloc ?_ (by first | omega | (simp; done) | (simp; omega)) _) | (refine below_drewN ?_ _) | (refine Below.drew ?_) | (refine Below.trans ?_ (Below.mono hb (by first | omega | (simp; done) | (simp; omega)))) | (refine Below.trans ?_ (Below.mono hb1 (by first | omega | (simp; done) | (simp; omega)))) | (refine Below.trans ?_ (Below.mono hb2 (by first | omega | (simp; done) | (simp; omega)))) | (refine Below.trans ?_ (Below.mono hb3 (by first | omega | (simp; done) | (simp; omega)))) | (refine Below.trans ?_ (Below.mono hb4 (by first | omega | (simp; done) | (simp; omega)))) | (refine Below.trans ?_ (Below.mono hb5 (by first | omega | (simp; done) | (simp; omega)))) | (refine Below.trans ?_ (Below.mono hb6 (by first | omega | (simp; done) | (simp; omega)))) | (refine Below.trans ?_ (Below.mono hb7 (by first | omega | (simp; done) | (simp; omega)))) | (refine Below.trans ?_ (Below.mono hb8 (by first | omega | (simp; done) | (simp; omega)))) | (refine Below.trans ?_ (Below.mono hb9 (by first | omega | (simp; done) | (simp; omega)))) | (refine Below.trans ?_ (Below.mono hb10 (by first | omega | (simp; done) | (simp; omega)))) | (refine Below.trans ?_ (Below.mono hb11 (by first | omega | (simp; done) | (simp; omega)))) | (refine Below.trans ?_ (Below.mono hb12 (by first | omega | (simp; done) | (simp; omega))))))
          have d3 := hx3.c0
          have d4 := hx3.c1
          have fz3 := hx3.fz
          have hz3 := hB3.size
          clear hb3
          go_wp2_with fail
          refine (Size_any hx3.pl).mono ?_
          rintro e w4 ⟨rfl, hb4⟩
          have hx4 := hx3.below hb4
          have hB4 := hB3.trans (hb4.mono hz3)
          have fz4 := hx4.fz
          have d5 := hx4.c1
          have hz4 := hB4.size
          clear hb4
          go_wp2_with fail
          refine (Move_P hok.p _ _ _).mono ?_
          rintro e w5 ⟨rfl, hb5⟩
          have hx5 := hx4.below hb5
          have hB5 := hB4.trans (hb5.mono hz4)
          have fz5 := hx5.fz
          have d6 := hx5.c1
          have hr := Pl.emod_range hok.p (p + 1)
          clear hb5
          go_wp2
          go_ret
          refine ⟨rfl, ?_, (SB_chg hBt (fun k e => .inr e)).trans ((Chg.of_below hB5).setCell (.inl (.inl rfl)) _)⟩
          have e1 : tt.P.nextOpen tt.pos = some k := srch_some (by omega) (by show ((tt.P.at _).start && _) = true; rw [HP.out, HC.out]; show (true && !prot cb) = true; rw [HPR.out]; rfl) (fun j hj => HNO.out j hj)
          have e2 : tt.seekTab = { tt with pos := (p + 1) % (tt.P.cells.length : Int) } := by unfold Br.seekTab; rw [e1]; show ({ tt with pos := (tt.pos + (k : Int) + 1) % tt.n } : Br) = _; rw [HP.out]
          rw [HT.out, e2]
          exact hx5.move hr.1 hr.2
        · have HPR := Lib.hid hpr
          clear hpr
          go_wp2_with fail
          refine (Protected_any cb _ hbr).mono ?_
          rw [HPR.out]
          rintro e w3 ⟨rfl, hb3⟩
          have hx3 := hx2'.below hb3
          have hB3 : Below wt.heap.size wt w3 := by with_reducible (repeat (first | exact Below.refl _ _ | assumption | (refine Below.setCell ?_ (by first | omega | (simp; done) | (simp; omega)) _) | (refine Below.alloc ?_ (by first | omega | (simp; done) | (simp; omega)) _) | (refine below_drewN ?_ _) | (refine Below.drew ?_) | (refine Below.trans ?_ (Below.mono hb (by first | omega | (simp; done) | (simp; omega)))) | (refine Below.trans ?_ (Below.mono hb1 (by first | omega | (simp; done) | (simp; omega)))) | (refine Below.trans ?_ (Below.mono hb2 (by first | omega | (simp; done) | (simp; omega)))) | (refine Below.trans ?_ (Below.mono hb3 (by first | omega | (simp; done) | (simp; omega)))) | (refine Below.trans ?_ (Below.mono hb4 (by first | omega | (simp; done) | (simp; omega)))) | (refine Below.trans ?_ (Below.mono hb5 (by first | omega | (simp; done) | (simp; omega)))) | (refine Below.trans ?_ (Below.mono hb6 (by first | omega | (simp; done) | (simp; omega)))) | (refine Below.trans ?_ (Below.mono hb7 (by first | omega | (simp; done) | (simp; omega)))) | (refine Below.trans ?_ (Below.mono hb8 (by first | omega | (simp; done) | (simp; omega)))) | (refine Below.trans ?_ (Below.mono hb9 (by first | omega | (simp; done) | (simp; omega)))) | (refine Below.trans ?_ (Below.mono hb10 (by first | omega | (simp; done) | (simp; omega)))) | (refine Below.trans ?_ (Below.mono hb11 (by first | omega | (simp; done) | (simp; omega)))) | (refine Below.trans ?_ (Below.mono hb12 (by first | omega | (simp; done) | (simp; omega))))))
          clear hb3
          go_wp2
          go_roundw
          case rel =>
            refine ⟨k + 1, by omega, fun j hj => ?_, by have := HP.out; rw [← this]; go_num, hx3, hB3⟩
            by_cases e : j < k
            · exact HNO.out j e
            · have : j = k := by omega
              rw [this, HP.out, HC.out]
              show (true && !prot cb) = false
              rw [HPR.out]; rfl
          case measure => simp [intOf]; omega
    · have hge : (tt.P.cells.length : Int) ≤ tt.pos + (k : Int) := by omega
      have hp4 : tt.pos + (k : Int) ≤ 4096 := by omega
      have hp0 : 0 ≤ tt.pos + (k : Int) := by omega
      have d4 := hx.c1
      have fz := hx.fz
      go_wp2_with fail
      refine (Len_any hx.pl).mono ?_
      rintro e w1 ⟨rfl, hb1⟩
      have hx1 := hx.below hb1
      have hB5 := hB.trans (hb1.mono hz)
      have fz1 := hx1.fz
      have d5 := hx1.c1
      clear hb1
      go_wp2
      go_ret
      refine ⟨rfl, ?_, (SB_chg hBt (fun k e => .inr e)).trans ((Chg.of_below hB5).setCell (.inl (.inl rfl)) _)⟩
      have e1 : tt.P.nextOpen tt.pos = none := srch_none (fun j hj => HNO.out j (by omega))
      have e2 : tt.seekTab = { tt with pos := 0 } := by unfold Br.seekTab; rw [e1]
      rw [HT.out, e2]
      exact hx1.move (Int.le_refl _) (by omega)
theorem tab_any (x : BrL w u g b cap s) (o : Ord) (r : ORef) :
    Calls Try.prog 175 #[.pointer (some ⟨u, 0, none⟩), OVal o r] w fun e w' => e = .returned (.int .i64 0) ∧ BrL w' u g b cap s.tab ∧ Chg (SB u b) w w' := by
  cases hl : s.laid
  · exact tab_no x o r hl
  · exact tab_yes x o r hl
end Go.Proofs.Ytbkddgeocmkegaa

namespace Go.Proofs.Ytbkddgeocmkegaa
open Go.RowKit Go.Shelf
set_option linter.unusedSimpArgs false
set_option linter.unusedVariables false
set_option maxHeartbeats 2000000
attribute [local go_sem ↓] run_start run_byte run_cols

variable {w : World} {u g b cap : Nat} {s : Br}

theorem jump_yes (x : BrL w u g b cap s) (o : Ord) (r : ORef) (ht : s.there o.addr = true) :
    Calls Try.prog 170 #[.pointer (some ⟨u, 0, none⟩), OVal o r] w fun e w' => e = .returned (.int .i64 0) ∧ BrL w' u g b cap { s with pos := o.addr } ∧ Chg (· = u) w w' := by
  have J := jump_any x o r
  rw [ht] at J
  exact J
theorem jump_no (x : BrL w u g b cap s) (o : Ord) (r : ORef) (ht : s.there o.addr = false) :
    Calls Try.prog 170 #[.pointer (some ⟨u, 0, none⟩), OVal o r] w fun e w' => e = .returned (.int .i64 32) ∧ BrL w' u g b cap s ∧ Chg (· = u) w w' := by
  have J := jump_any x o r
  rw [ht] at J
  exact J
theorem repeat_no (x : BrL w u g b cap s) (o : Ord) (r : ORef) (ht : s.there o.addr = false) :
    Calls Try.prog 176 #[.pointer (some ⟨u, 0, none⟩), OVal o r] w fun e w' => e = .returned (.int .i64 32) ∧ BrL w' u g b cap s ∧ Chg (SB u b) w w' := by
  have c1 := x.c1
  have hul := x.hl
  have HT := Lib.hid ht
  clear ht
  unfold OVal
  go_enter Try.func176, Try.ntmps176
  go_wp2_with fail
  refine (jump_no (x.below (by with_reducible (repeat (first | exact Below.refl _ _ | assumption | (refine Below.setCell ?_ (by first | omega | (simp; done) | (simp; omega)) _) | (refine Below.alloc ?_ (by first | omega | (simp; done) | (simp; omega)) _) | (refine below_drewN ?_ _) | (refine Below.drew ?_) | (refine Below.trans ?_ (Below.mono hb (by first | omega | (simp; done) | (simp; omega)))) | (refine Below.trans ?_ (Below.mono hb1 (by first | omega | (simp; done) | (simp; omega)))) | (refine Below.trans ?_ (Below.mono hb2 (by first | omega | (simp; done) | (simp; omega)))) | (refine Below.trans ?_ (Below.mono hb3 (by first | omega | (simp; done) | (simp; omega)))) | (refine Below.trans ?_ (Below.mono hb4 (by first | omega | (simp; done) | (simp; omega)))) | (refine Below.trans ?_ (Below.mono hb5 (by first | omega | (simp; done) | (simp; omega)))) | (refine Below.trans ?_ (Below.mono hb6 (by first | omega | (simp; done) | (simp; omega)))) | (refine Below.trans ?_ (Below.mono hb7 (by first | omega | (simp; done) | (simp; omega)))) | (refine Below.trans ?_ (Below.mono hb8 (by first | omega | (simp; done) | (simp; omega)))) | (refine Below.trans ?_ (Below.mono hb9 (by first | omega | (simp; done) | (simp; omega)))) | (refine Below.trans ?_ (Below.mono hb10 (by first | omega | (simp; done) | (simp; omega)))) | (refine Below.trans ?_ (Below.mono hb11 (by first | omega | (simp; done) | (simp; omega)))) | (refine Below.trans ?_ (Below.mono hb12 (by first | omega | (simp; done) | (simp; omega)))))))) o r HT.out).mono ?_
  rintro e w1 ⟨rfl, hx1, hk1⟩
  go_wp2
  go_ret
  exact ⟨rfl, hx1, SB_chg (chg_bel (by with_reducible (repeat (first | exact Below.refl _ _ | assumption | (refine Below.setCell ?_ (by first | omega | (simp; done) | (simp; omega)) _) | (refine Below.alloc ?_ (by first | omega | (simp; done) | (simp; omega)) _) | (refine below_drewN ?_ _) | (refine Below.drew ?_) | (refine Below.trans ?_ (Below.mono hb (by first | omega | (simp; done) | (simp; omega)))) | (refine Below.trans ?_ (Below.mono hb1 (by first | omega | (simp; done) | (simp; omega)))) | (refine Below.trans ?_ (Below.mono hb2 (by first | omega | (simp; done) | (simp; omega)))) | (refine Below.trans ?_ (Below.mono hb3 (by first | omega | (simp; done) | (simp; omega)))) | (refine Below.trans ?_ (Below.mono hb4 (by first | omega | (simp; done) | (simp; omega)))) | (refine Below.trans ?_ (Below.mono hb5 (by first | omega | (simp; done) | (simp; omega)))) | (refine Below.trans ?_ (Below.mono hb6 (by first | omega | (simp; done) | (simp; omega)))) | (refine Below.trans ?_ (Below.mono hb7 (by first | omega | (simp; done) | (simp; omega)))) | (refine Below.trans ?_ (Below.mono hb8 (by first | omega | (simp; done) | (simp; omega)))) | (refine Below.trans ?_ (Below.mono hb9 (by first | omega | (simp; done) | (simp; omega)))) | (refine Below.trans ?_ (Below.mono hb10 (by first | omega | (simp; done) | (simp; omega)))) | (refine Below.trans ?_ (Below.mono hb11 (by first | omega | (simp; done) | (simp; omega)))) | (refine Below.trans ?_ (Below.mono hb12 (by first | omega | (simp; done) | (simp; omega))))))) hk1) (fun k e => .inl e)⟩

theorem repeat_yes (x : BrL w u g b cap s) (o : Ord) (r : ORef) (ho : o.ok) (ht : s.there o.addr = true) :
    Calls Try.prog 176 #[.pointer (some ⟨u, 0, none⟩), OVal o r] w fun e w' => e = .returned (.int .i64 0) ∧ BrL w' u g b cap { s with P := s.P.fil (btw s.n s.pos o.addr) (s.char o.byte o.ge), pos := o.addr } ∧ Chg (SB u b) w w' := by
  have c1 := x.c1
  have hul := x.hl
  have n2 := x.n2
  have htt := (s.there_iff _).1 ht
  obtain ⟨a0, a1⟩ := And.intro x.ok.a0 x.ok.a1
  have hcok := Br.char_ok x.ok ho.b o.ge
  unfold OVal
  have HT := Lib.hid ht
  clear ho ht
  obtain ⟨t0, t1⟩ := htt
  obtain ⟨L, hL⟩ : ∃ L, btw (s.P.cells.length : Int) s.pos o.addr = L := ⟨_, rfl⟩
  have HL := Lib.hid hL
  have HLN : Hid (btw s.n s.pos o.addr = L) := hL
  clear hL
  go_enter Try.func176, Try.ntmps176
  go_wp2_with fail
  refine (jump_yes (x.below (by with_reducible (repeat (first | exact Below.refl _ _ | assumption | (refine Below.setCell ?_ (by first | omega | (simp; done) | (simp; omega)) _) | (refine Below.alloc ?_ (by first | omega | (simp; done) | (simp; omega)) _) | (refine below_drewN ?_ _) | (refine Below.drew ?_) | (refine Below.trans ?_ (Below.mono hb (by first | omega | (simp; done) | (simp; omega)))) | (refine Below.trans ?_ (Below.mono hb1 (by first | omega | (simp; done) | (simp; omega)))) | (refine Below.trans ?_ (Below.mono hb2 (by first | omega | (simp; done) | (simp; omega)))) | (refine Below.trans ?_ (Below.mono hb3 (by first | omega | (simp; done) | (simp; omega)))) | (refine Below.trans ?_ (Below.mono hb4 (by first | omega | (simp; done) | (simp; omega)))) | (refine Below.trans ?_ (Below.mono hb5 (by first | omega | (simp; done) | (simp; omega)))) | (refine Below.trans ?_ (Below.mono hb6 (by first | omega | (simp; done) | (simp; omega)))) | (refine Below.trans ?_ (Below.mono hb7 (by first | omega | (simp; done) | (simp; omega)))) | (refine Below.trans ?_ (Below.mono hb8 (by first | omega | (simp; done) | (simp; omega)))) | (refine Below.trans ?_ (Below.mono hb9 (by first | omega | (simp; done) | (simp; omega)))) | (refine Below.trans ?_ (Below.mono hb10 (by first | omega | (simp; done) | (simp; omega)))) | (refine Below.trans ?_ (Below.mono hb11 (by first | omega | (simp; done) | (simp; omega)))) | (refine Below.trans ?_ (Below.mono hb12 (by first | omega | (simp; done) | (simp; omega)))))))) o r HT.out).mono ?_
  rintro e w1 ⟨rfl, hx1, hk1⟩
  have hB1 : Chg (SB u b) w w1 := SB_chg (chg_bel (by with_reducible (repeat (first | exact Below.refl _ _ | assumption | (refine Below.setCell ?_ (by first | omega | (simp; done) | (simp; omega)) _) | (refine Below.alloc ?_ (by first | omega | (simp; done) | (simp; omega)) _) | (refine below_drewN ?_ _) | (refine Below.drew ?_) | (refine Below.trans ?_ (Below.mono hb (by first | omega | (simp; done) | (simp; omega)))) | (refine Below.trans ?_ (Below.mono hb1 (by first | omega | (simp; done) | (simp; omega)))) | (refine Below.trans ?_ (Below.mono hb2 (by first | omega | (simp; done) | (simp; omega)))) | (refine Below.trans ?_ (Below.mono hb3 (by first | omega | (simp; done) | (simp; omega)))) | (refine Below.trans ?_ (Below.mono hb4 (by first | omega | (simp; done) | (simp; omega)))) | (refine Below.trans ?_ (Below.mono hb5 (by first | omega | (simp; done) | (simp; omega)))) | (refine Below.trans ?_ (Below.mono hb6 (by first | omega | (simp; done) | (simp; omega)))) | (refine Below.trans ?_ (Below.mono hb7 (by first | omega | (simp; done) | (simp; omega)))) | (refine Below.trans ?_ (Below.mono hb8 (by first | omega | (simp; done) | (simp; omega)))) | (refine Below.trans ?_ (Below.mono hb9 (by first | omega | (simp; done) | (simp; omega)))) | (refine Below.trans ?_ (Below.mono hb10 (by first | omega | (simp; done) | (simp; omega)))) | (refine Below.trans ?_ (Below.mono hb11 (by first | omega | (simp; done) | (simp; omega)))) | (refine Below.trans ?_ (Below.mono hb12 (by first | omega | (simp; done) | (simp; omega))))))) hk1) (fun k e => .inl e)
  have y2 : w1.cell? ⟨w.heap.size, 2, none⟩ = some (.int .u8 o.byte) := cell_keepC (by simp [go_sem]) hk1 (by show ¬ w.heap.size = u; omega)
  have y3 : w1.cell? ⟨w.heap.size, 3, none⟩ = some (.bool o.ge) := cell_keepC (by simp [go_sem]) hk1 (by show ¬ w.heap.size = u; omega)
  have hz1 := hB1.size
  have d0 := hx1.c0
  have d1 := hx1.c1
  have hbl := x.pl.bl
  have nb : ¬ w.heap.size = b := by omega
  clear hk1 c1
  go_wp2
  go_region_held3 (fun W => W.cell? ⟨u, 0, none⟩ = some (.pointer (some ⟨g, 0, none⟩)) ∧ W.cell? ⟨u, 1, none⟩ = some (.int .i64 o.addr) ∧ W.cell? ⟨w.heap.size, 2, none⟩ = some (.int .u8 o.byte) ∧ W.cell? ⟨w.heap.size, 3, none⟩ = some (.bool o.ge))
    (first | exact ⟨f0, f1, f2, f3⟩ | exact ⟨e0, e1, e2, e3⟩ | go_keep)
    (first
      | (go_at_call 204; refine (char_any (hx1.below (by with_reducible (repeat (first | exact Below.refl _ _ | assumption | (refine Below.setCell ?_ (by first | omega | (simp; done) | (simp; omega)) _) | (refine Below.alloc ?_ (by first | omega | (simp; done) | (simp; omega)) _) | (refine below_drewN ?_ _) | (refine Below.drew ?_) | (refine Below.trans ?_ (Below.mono hb (by first | omega | (simp; done) | (simp; omega)))) | (refine Below.trans ?_ (Below.mono hb1 (by first | omega | (simp; done) | (simp; omega)))) | (refine Below.trans ?_ (Below.mono hb2 (by first | omega | (simp; done) | (simp; omega)))) | (refine Below.trans ?_ (Below.mono hb3 (by first | omega | (simp; done) | (simp; omega)))) | (refine Below.trans ?_ (Below.mono hb4 (by first | omega | (simp; done) | (simp; omega)))) | (refine Below.trans ?_ (Below.mono hb5 (by first | omega | (simp; done) | (simp; omega)))) | (refine Below.trans ?_ (Below.mono hb6 (by first | omega | (simp; done) | (simp; omega)))) | (refine Below.trans ?_ (Below.mono hb7 (by first | omega | (simp; done) | (simp; omega)))) | (refine Below.trans ?_ (Below.mono hb8 (by first | omega | (simp; done) | (simp; omega)))) | (refine Below.trans ?_ (Below.mono hb9 (by first | omega | (simp; done) | (simp; omega)))) | (refine Below.trans ?_ (Below.mono hb10 (by first | omega | (simp; done) | (simp; omega)))) | (refine Below.trans ?_ (Below.mono hb11 (by first | omega | (simp; done) | (simp; omega)))) | (refine Below.trans ?_ (Below.mono hb12 (by first | omega | (simp; done) | (simp; omega)))))))) o.byte o.ge).mono ?_; rintro e w2 ⟨rfl, hb2⟩; have hB2 : Below w1.heap.size w1 w2 := (by with_reducible (repeat (first | exact Below.refl _ _ | assumption | (refine Below.setCell ?_ (by first | omega | (simp; done) | (simp; omega)) _) | (refine Below.alloc ?_ (by first | omega | (simp; done) | (simp; omega)) _) | (refine below_drewN ?_ _) | (refine Below.drew ?_) | (refine Below.trans ?_ (Below.mono hb (by first | omega | (simp; done) | (simp; omega)))) | (refine Below.trans ?_ (Below.mono hb1 (by first | omega | (simp; done) | (simp; omega)))) | (refine Below.trans ?_ (Below.mono hb2 (by first | omega | (simp; done) | (simp; omega)))) | (refine Below.trans ?_ (Below.mono hb3 (by first | omega | (simp; done) | (simp; omega)))) | (refine Below.trans ?_ (Below.mono hb4 (by first | omega | (simp; done) | (simp; omega)))) | (refine Below.trans ?_ (Below.mono hb5 (by first | omega | (simp; done) | (simp; omega)))) | (refine Below.trans ?_ (Below.mono hb6 (by first | omega | (simp; done) | (simp; omega)))) | (refine Below.trans ?_ (Below.mono hb7 (by first | omega | (simp; done) | (simp; omega)))) | (refine Below.trans ?_ (Below.mono hb8 (by first | omega | (simp; done) | (simp; omega)))) | (refine Below.trans ?_ (Below.mono hb9 (by first | omega | (simp; done) | (simp; omega)))) | (refine Below.trans ?_ (Below.mono hb10 (by first | omega | (simp; done) | (simp; omega)))) | (refine Below.trans ?_ (Below.mono hb11 (by first | omega | (simp; done) | (simp; omega)))) | (refine Below.trans ?_ (Below.mono hb12 (by first | omega | (simp; done) | (simp; omega))))))); have hx2 := hx1.below hB2; have e0 := hx2.c0; have e1 := hx2.c1; have e2 := cell_keep y2 hB2; have e3 := cell_keep y3 hB2)
      | (go_at_call 114; refine (Fill_list hx2.pl s.pos o.addr _ hcok ⟨a0, a1⟩ ⟨t0, t1⟩ L HL).mono ?_; rintro e w3 ⟨rfl, hP3, hk3⟩; have hx3 := hx2.turn hk3 n2 hP3 (fil_same _ _ _).2.2.1; have f0 := hx3.c0; have f1 := hx3.c1; have f2 := cell_keepC e2 hk3 nb; have f3 := cell_keepC e3 hk3 nb))
  go_wp2
  go_ret
  exact ⟨rfl, by rw [HLN.out]; exact hx3, hB1.trans (SB_chg (chg_bel hB2 hk3) (fun k e => .inr e))⟩


theorem wipe_no (x : BrL w u g b cap s) (o : Ord) (r : ORef) (ht : s.there o.addr = false) :
    Calls Try.prog 177 #[.pointer (some ⟨u, 0, none⟩), OVal o r] w fun e w' => e = .returned (.int .i64 32) ∧ BrL w' u g b cap s ∧ Chg (SB u b) w w' := by
  have c1 := x.c1
  have hul := x.hl
  have HT := Lib.hid ht
  clear ht
  unfold OVal
  refine (callsIn_wide (n := 0)).1 ?_
  refine callsIn_of_wp_marks Try.func177 rfl trivial ?_ rfl
  simp only [Try.ntmps177, List.size_toArray, List.length_cons, List.length_nil, Nat.reduceAdd, Nat.reduceSub, Array.replicate_succ, Array.replicate_zero, List.push_toArray, List.append_toArray, List.nil_append, List.cons_append]
  gi_wp2_with fail
  refine ⟨trivial, rfl, CallsIn.mono (callsIn_wide.2 (jump_no (x.below (by with_reducible (repeat (first | exact Below.refl _ _ | assumption | (refine Below.setCell ?_ (by first | omega | (simp; done) | (simp; omega)) _) | (refine Below.alloc ?_ (by first | omega | (simp; done) | (simp; omega)) _) | (refine below_drewN ?_ _) | (refine Below.drew ?_) | (refine Below.trans ?_ (Below.mono hb (by first | omega | (simp; done) | (simp; omega)))) | (refine Below.trans ?_ (Below.mono hb1 (by first | omega | (simp; done) | (simp; omega)))) | (refine Below.trans ?_ (Below.mono hb2 (by first | omega | (simp; done) | (simp; omega)))) | (refine Below.trans ?_ (Below.mono hb3 (by first | omega | (simp; done) | (simp; omega)))) | (refine Below.trans ?_ (Below.mono hb4 (by first | omega | (simp; done) | (simp; omega)))) | (refine Below.trans ?_ (Below.mono hb5 (by first | omega | (simp; done) | (simp; omega)))) | (refine Below.trans ?_ (Below.mono hb6 (by first | omega | (simp; done) | (simp; omega)))) | (refine Below.trans ?_ (Below.mono hb7 (by first | omega | (simp; done) | (simp; omega)))) | (refine Below.trans ?_ (Below.mono hb8 (by first | omega | (simp; done) | (simp; omega)))) | (refine Below.trans ?_ (Below.mono hb9 (by first | omega | (simp; done) | (simp; omega)))) | (refine Below.trans ?_ (Below.mono hb10 (by first | omega | (simp; done) | (simp; omega)))) | (refine Below.trans ?_ (Below.mono hb11 (by first | omega | (simp; done) | (simp; omega)))) | (refine Below.trans ?_ (Below.mono hb12 (by first | omega | (simp; done) | (simp; omega)))))))) o r HT.out)) ?_⟩
  rintro e w1 ⟨rfl, hx1, hk1⟩
  gi_wp2
  refine ⟨.int .i64 32, ?_, rfl, hx1, SB_chg (chg_bel (by with_reducible (repeat (first | exact Below.refl _ _ | assumption | (refine Below.setCell ?_ (by first | omega | (simp; done) | (simp; omega)) _) | (refine Below.alloc ?_ (by first | omega | (simp; done) | (simp; omega)) _) | (refine below_drewN ?_ _) | (refine Below.drew ?_) | (refine Below.trans ?_ (Below.mono hb (by first | omega | (simp; done) | (simp; omega)))) | (refine Below.trans ?_ (Below.mono hb1 (by first | omega | (simp; done) | (simp; omega)))) | (refine Below.trans ?_ (Below.mono hb2 (by first | omega | (simp; done) | (simp; omega)))) | (refine Below.trans ?_ (Below.mono hb3 (by first | omega | (simp; done) | (simp; omega)))) | (refine Below.trans ?_ (Below.mono hb4 (by first | omega | (simp; done) | (simp; omega)))) | (refine Below.trans ?_ (Below.mono hb5 (by first | omega | (simp; done) | (simp; omega)))) | (refine Below.trans ?_ (Below.mono hb6 (by first | omega | (simp; done) | (simp; omega)))) | (refine Below.trans ?_ (Below.mono hb7 (by first | omega | (simp; done) | (simp; omega)))) | (refine Below.trans ?_ (Below.mono hb8 (by first | omega | (simp; done) | (simp; omega)))) | (refine Below.trans ?_ (Below.mono hb9 (by first | omega | (simp; done) | (simp; omega)))) | (refine Below.trans ?_ (Below.mono hb10 (by first | omega | (simp; done) | (simp; omega)))) | (refine Below.trans ?_ (Below.mono hb11 (by first | omega | (simp; done) | (simp; omega)))) | (refine Below.trans ?_ (Below.mono hb12 (by first | omega | (simp; done) | (simp; omega))))))) hk1) (fun k e => .inl e)⟩
  simp [results, Try.f177, go_sem]
end Go.Proofs.Ytbkddgeocmkegaa

namespace Go.Proofs.Ytbkddgeocmkegaa
open Go.RowKit Go.Shelf
set_option linter.unusedSimpArgs false
set_option linter.unusedVariables false
set_option maxHeartbeats 4000000
attribute [local go_sem ↓] run_start run_byte run_cols
attribute [local go_sem] Oper.semAt_some

variable {w : World} {u g b cap : Nat} {s : Br}
theorem BrL.aux {B : Nat} {W W' : World} (x : BrL W u g b cap s) (ha : Aux B W W') : BrL W' u g b cap s := ⟨ha.cells x.hh, x.pl.aux ha, x.n1, x.n2, x.ok⟩
structure WI (w : World) (u g b cap B : Nat) (cs : List (Addr × Value)) (s : Br) (W : World) : Prop where
  br : BrL W u g b cap s
  cs : Cells cs W
  chg : Chg (SB u b) w W
  sz : B ≤ W.heap.size
theorem WI.aux {W W' : World} {B : Nat} {cs : List (Addr × Value)} (h : WI w u g b cap B cs s W) (hB : w.heap.size ≤ B) (ha : Aux B W W') : WI w u g b cap B cs s W' :=
  ⟨h.br.aux ha, h.cs.aux ha, ha.chg h.chg hB, Nat.le_trans h.sz ha.size⟩
theorem WI.below {W W' : World} {B : Nat} {cs : List (Addr × Value)} (h : WI w u g b cap B cs s W) (hb : Below W.heap.size W W') : WI w u g b cap B cs s W' :=
  ⟨h.br.below hb, fun p hp => cell_keep (h.cs p hp) hb, h.chg.trans (Chg.of_below hb), Nat.le_trans h.sz hb.size⟩
theorem WI.turn {W W' : World} {B : Nat} {cs : List (Addr × Value)} {P' : Pl} (h : WI w u g b cap B cs s W) (hcs : ∀ p ∈ cs, p.1.block ≠ b) (hP : PL W' g b cap P') (hk : Chg (· = b) W W') (hl : P'.cells.length = s.P.cells.length) : WI w u g b cap B cs { s with P := P' } W' :=
  ⟨h.br.turn hk h.br.n2 hP hl, h.cs.chg hk hcs, h.chg.trans (SB_chg hk (fun k e => .inr e)), Nat.le_trans h.sz hk.size⟩

set_option maxRecDepth 100000 in
theorem wipe_yes (x : BrL w u g b cap s) (o : Ord) (r : ORef) (ho : o.ok) (ht : s.there o.addr = true) :
    Calls Try.prog 177 #[.pointer (some ⟨u, 0, none⟩), OVal o r] w fun e w' => e = .returned (.int .i64 0) ∧ BrL w' u g b cap { s with P := s.P.wipeL (btw s.n s.pos o.addr), pos := o.addr } ∧ Chg (SB u b) w w' := by
  have c1 := x.c1
  have hul := x.hl
  have hbl := x.pl.bl
  have n2 := x.n2
  obtain ⟨t0, t1⟩ : 0 ≤ o.addr ∧ o.addr < (s.P.cells.length : Int) := (s.there_iff _).1 ht
  obtain ⟨a0, a1⟩ := And.intro x.ok.a0 x.ok.a1
  obtain ⟨L, hL⟩ : ∃ L, btw (s.P.cells.length : Int) s.pos o.addr = L := ⟨_, rfl⟩
  have HL := Lib.hid hL
  have HLN : Hid (btw s.n s.pos o.addr = L) := hL
  clear hL
  have hn := Pl.N_pos x.ok.p
  have hrg : ∀ x ∈ L, 0 ≤ x ∧ x < (s.P.cells.length : Int) := by rw [← HL.out]; exact btw_range (by omega) _ _
  have hok := x.ok.p
  unfold OVal
  have HT := Lib.hid ht
  clear ho ht
  refine (callsIn_wide (n := 0)).1 ?_
  refine callsIn_of_wp_marks Try.func177 rfl trivial ?_ rfl
  simp only [Try.ntmps177, List.size_toArray, List.length_cons, List.length_nil, Nat.reduceAdd, Nat.reduceSub, Array.replicate_succ, Array.replicate_zero, List.push_toArray, List.append_toArray, List.nil_append, List.cons_append]
  gi_wp2_with fail
  refine ⟨trivial, rfl, CallsIn.mono (callsIn_wide.2 (jump_yes (x.below (by with_reducible (repeat (first | exact Below.refl _ _ | assumption | (refine Below.setCell ?_ (by first | omega | (simp; done) | (simp; omega)) _) | (refine Below.alloc ?_ (by first | omega | (simp; done) | (simp; omega)) _) | (refine below_drewN ?_ _) | (refine Below.drew ?_) | (refine Below.trans ?_ (Below.mono hb (by first | omega | (simp; done) | (simp; omega)))) | (refine Below.trans ?_ (Below.mono hb1 (by first | omega | (simp; done) | (simp; omega)))) | (refine Below.trans ?_ (Below.mono hb2 (by first | omega | (simp; done) | (simp; omega)))) | (refine Below.trans ?_ (Below.mono hb3 (by first | omega | (simp; done) | (simp; omega)))) | (refine Below.trans ?_ (Below.mono hb4 (by first | omega | (simp; done) | (simp; omega)))) | (refine Below.trans ?_ (Below.mono hb5 (by first | omega | (simp; done) | (simp; omega)))) | (refine Below.trans ?_ (Below.mono hb6 (by first | omega | (simp; done) | (simp; omega)))) | (refine Below.trans ?_ (Below.mono hb7 (by first | omega | (simp; done) | (simp; omega)))) | (refine Below.trans ?_ (Below.mono hb8 (by first | omega | (simp; done) | (simp; omega)))) | (refine Below.trans ?_ (Below.mono hb9 (by first | omega | (simp; done) | (simp; omega)))) | (refine Below.trans ?_ (Below.mono hb10 (by first | omega | (simp; done) | (simp; omega)))) | (refine Below.trans ?_ (Below.mono hb11 (by first | omega | (simp; done) | (simp; omega)))) | (refine Below.trans ?_ (Below.mono hb12 (by first | omega | (simp; done) | (simp; omega)))))))) o r HT.out)) ?_⟩
  rintro e w1 ⟨rfl, hx1, hk1⟩
  have hB1 : Chg (SB u b) w w1 := SB_chg (chg_bel (by with_reducible (repeat (first | exact Below.refl _ _ | assumption | (refine Below.setCell ?_ (by first | omega | (simp; done) | (simp; omega)) _) | (refine Below.alloc ?_ (by first | omega | (simp; done) | (simp; omega)) _) | (refine below_drewN ?_ _) | (refine Below.drew ?_) | (refine Below.trans ?_ (Below.mono hb (by first | omega | (simp; done) | (simp; omega)))) | (refine Below.trans ?_ (Below.mono hb1 (by first | omega | (simp; done) | (simp; omega)))) | (refine Below.trans ?_ (Below.mono hb2 (by first | omega | (simp; done) | (simp; omega)))) | (refine Below.trans ?_ (Below.mono hb3 (by first | omega | (simp; done) | (simp; omega)))) | (refine Below.trans ?_ (Below.mono hb4 (by first | omega | (simp; done) | (simp; omega)))) | (refine Below.trans ?_ (Below.mono hb5 (by first | omega | (simp; done) | (simp; omega)))) | (refine Below.trans ?_ (Below.mono hb6 (by first | omega | (simp; done) | (simp; omega)))) | (refine Below.trans ?_ (Below.mono hb7 (by first | omega | (simp; done) | (simp; omega)))) | (refine Below.trans ?_ (Below.mono hb8 (by first | omega | (simp; done) | (simp; omega)))) | (refine Below.trans ?_ (Below.mono hb9 (by first | omega | (simp; done) | (simp; omega)))) | (refine Below.trans ?_ (Below.mono hb10 (by first | omega | (simp; done) | (simp; omega)))) | (refine Below.trans ?_ (Below.mono hb11 (by first | omega | (simp; done) | (simp; omega)))) | (refine Below.trans ?_ (Below.mono hb12 (by first | omega | (simp; done) | (simp; omega))))))) hk1) (fun k e => .inl e)
  have hz1 := hk1.size
  simp only [World.size_alloc] at hz1
  have y0 : w1.cell? ⟨w.heap.size, 0, none⟩ = some (.pointer (some ⟨u, 0, none⟩)) := cell_keepC (by simp [go_sem]) hk1 (by show ¬ w.heap.size = u; omega)
  have d0 := hx1.c0
  have d1 := hx1.c1
  clear hk1 c1
  gi_wp2_with fail
  gi_cut [28] from 18 (fun v W => ∃ D, v = .func (.func 202) #[] #[.pointer (some ⟨D, 0, none⟩), .pointer (some ⟨D + 1, 0, none⟩), .pointer (some ⟨D + 1 + 1, 0, none⟩)] ∧ w1.heap.size ≤ D ∧ W.heap.size = D + 1 + 1 + 1 ∧ Below w1.heap.size w1 W ∧ W.cell? ⟨D, 0, none⟩ = some (.int .i64 s.P.rows) ∧ W.cell? ⟨D, 1, none⟩ = some (.int .i64 s.P.cols) ∧ W.cell? ⟨D + 1, 0, none⟩ = some (.int .i64 s.pos) ∧ W.cell? ⟨D + 1 + 1, 0, none⟩ = some (.int .i64 o.addr))
  case first =>
    refine wpIn_mono (Q := noP _) ?_ (fun e a w h => noP_imp h)
    gi_region_with (first
      | (refine ⟨trivial, rfl, ?_⟩; gi_at_call 101; refine CallsIn.mono (callsIn_wide.2 (Size_any (hx1.pl.below (by with_reducible (repeat (first | exact Below.refl _ _ | assumption | (refine Below.setCell ?_ (by first | omega | (simp; done) | (simp; omega)) _) | (refine Below.alloc ?_ (by first | omega | (simp; done) | (simp; omega)) _) | (refine below_drewN ?_ _) | (refine Below.drew ?_) | (refine Below.trans ?_ (Below.mono hb (by first | omega | (simp; done) | (simp; omega)))) | (refine Below.trans ?_ (Below.mono hb1 (by first | omega | (simp; done) | (simp; omega)))) | (refine Below.trans ?_ (Below.mono hb2 (by first | omega | (simp; done) | (simp; omega)))) | (refine Below.trans ?_ (Below.mono hb3 (by first | omega | (simp; done) | (simp; omega)))) | (refine Below.trans ?_ (Below.mono hb4 (by first | omega | (simp; done) | (simp; omega)))) | (refine Below.trans ?_ (Below.mono hb5 (by first | omega | (simp; done) | (simp; omega)))) | (refine Below.trans ?_ (Below.mono hb6 (by first | omega | (simp; done) | (simp; omega)))) | (refine Below.trans ?_ (Below.mono hb7 (by first | omega | (simp; done) | (simp; omega)))) | (refine Below.trans ?_ (Below.mono hb8 (by first | omega | (simp; done) | (simp; omega)))) | (refine Below.trans ?_ (Below.mono hb9 (by first | omega | (simp; done) | (simp; omega)))) | (refine Below.trans ?_ (Below.mono hb10 (by first | omega | (simp; done) | (simp; omega)))) | (refine Below.trans ?_ (Below.mono hb11 (by first | omega | (simp; done) | (simp; omega)))) | (refine Below.trans ?_ (Below.mono hb12 (by first | omega | (simp; done) | (simp; omega)))))))))) ?_; rintro e w2 ⟨rfl, hb2⟩; have hB2 : Below w1.heap.size w1 w2 := (by with_reducible (repeat (first | exact Below.refl _ _ | assumption | (refine Below.setCell ?_ (by first | omega | (simp; done) | (simp; omega)) _) | (refine Below.alloc ?_ (by first | omega | (simp; done) | (simp; omega)) _) | (refine below_drewN ?_ _) | (refine Below.drew ?_) | (refine Below.trans ?_ (Below.mono hb (by first | omega | (simp; done) | (simp; omega)))) | (refine Below.trans ?_ (Below.mono hb1 (by first | omega | (simp; done) | (simp; omega)))) | (refine Below.trans ?_ (Below.mono hb2 (by first | omega | (simp; done) | (simp; omega)))) | (refine Below.trans ?_ (Below.mono hb3 (by first | omega | (simp; done) | (simp; omega)))) | (refine Below.trans ?_ (Below.mono hb4 (by first | omega | (simp; done) | (simp; omega)))) | (refine Below.trans ?_ (Below.mono hb5 (by first | omega | (simp; done) | (simp; omega)))) | (refine Below.trans ?_ (Below.mono hb6 (by first | omega | (simp; done) | (simp; omega)))) | (refine Below.trans ?_ (Below.mono hb7 (by first | omega | (simp; done) | (simp; omega)))) | (refine Below.trans ?_ (Below.mono hb8 (by first | omega | (simp; done) | (simp; omega)))) | (refine Below.trans ?_ (Below.mono hb9 (by first | omega | (simp; done) | (simp; omega)))) | (refine Below.trans ?_ (Below.mono hb10 (by first | omega | (simp; done) | (simp; omega)))) | (refine Below.trans ?_ (Below.mono hb11 (by first | omega | (simp; done) | (simp; omega)))) | (refine Below.trans ?_ (Below.mono hb12 (by first | omega | (simp; done) | (simp; omega))))))); have hx2 := hx1.below hB2; have e0 := hx2.c0; have e1 := hx2.c1; have e2 := cell_keep y0 hB2; have hz2 := hB2.size)
      | (refine ⟨trivial, rfl, ?_⟩; gi_at_call 166; refine CallsIn.mono (callsIn_wide.2 (Between_any _ _ _ _ _)) ?_; rintro e w3 ⟨rfl, rfl⟩))
    all_goals (refine noP_normal ?_; gi_wp2; gi_meet; case rel => exact ⟨w2.heap.size, rfl, hz2, by simp, by with_reducible (repeat (first | exact Below.refl _ _ | assumption | (refine Below.setCell ?_ (by first | omega | (simp; done) | (simp; omega)) _) | (refine Below.alloc ?_ (by first | omega | (simp; done) | (simp; omega)) _) | (refine below_drewN ?_ _) | (refine Below.drew ?_) | (refine Below.trans ?_ (Below.mono hb (by first | omega | (simp; done) | (simp; omega)))) | (refine Below.trans ?_ (Below.mono hb1 (by first | omega | (simp; done) | (simp; omega)))) | (refine Below.trans ?_ (Below.mono hb2 (by first | omega | (simp; done) | (simp; omega)))) | (refine Below.trans ?_ (Below.mono hb3 (by first | omega | (simp; done) | (simp; omega)))) | (refine Below.trans ?_ (Below.mono hb4 (by first | omega | (simp; done) | (simp; omega)))) | (refine Below.trans ?_ (Below.mono hb5 (by first | omega | (simp; done) | (simp; omega)))) | (refine Below.trans ?_ (Below.mono hb6 (by first | omega | (simp; done) | (simp; omega)))) | (refine Below.trans ?_ (Below.mono hb7 (by first | omega | (simp; done) | (simp; omega)))) | (refine Below.trans ?_ (Below.mono hb8 (by first | omega | (simp; done) | (simp; omega)))) | (refine Below.trans ?_ (Below.mono hb9 (by first | omega | (simp; done) | (simp; omega)))) | (refine Below.trans ?_ (Below.mono hb10 (by first | omega | (simp; done) | (simp; omega)))) | (refine Below.trans ?_ (Below.mono hb11 (by first | omega | (simp; done) | (simp; omega)))) | (refine Below.trans ?_ (Below.mono hb12 (by first | omega | (simp; done) | (simp; omega)))))), by simp [go_sem], by simp [go_sem], by simp [go_sem], by simp [go_sem]⟩)
  case rest =>
    obtain ⟨D, rfl, hD, hWD, hBc, q0, q1, q2, q3⟩ := hcut
    gi_wp2
    obtain ⟨cs, hcs⟩ : ∃ cs : List (Addr × Value), cs = [(⟨w.heap.size, 0, none⟩, .pointer (some ⟨u, 0, none⟩)), (⟨D, 0, none⟩, .int .i64 s.P.rows), (⟨D, 1, none⟩, .int .i64 s.P.cols), (⟨D + 1, 0, none⟩, .int .i64 s.pos), (⟨D + 1 + 1, 0, none⟩, .int .i64 o.addr)] := ⟨_, rfl⟩
    have hcsb : ∀ p ∈ cs, p.1.block ≠ b := by
      intro p hp
      rw [hcs] at hp
      simp only [List.mem_cons, List.not_mem_nil, or_false] at hp
      rcases hp with rfl | rfl | rfl | rfl | rfl <;> (simp; omega)
    have hget : ∀ {W}, Cells cs W → W.cell? ⟨w.heap.size, 0, none⟩ = some (.pointer (some ⟨u, 0, none⟩)) ∧ W.cell? ⟨D, 0, none⟩ = some (.int .i64 s.P.rows) ∧ W.cell? ⟨D, 1, none⟩ = some (.int .i64 s.P.cols) ∧ W.cell? ⟨D + 1, 0, none⟩ = some (.int .i64 s.pos) ∧ W.cell? ⟨D + 1 + 1, 0, none⟩ = some (.int .i64 o.addr) := by
      intro W hc
      rw [hcs] at hc
      exact ⟨hc (⟨w.heap.size, 0, none⟩, _) (by simp), hc (⟨D, 0, none⟩, _) (by simp), hc (⟨D, 1, none⟩, _) (by simp), hc (⟨D + 1, 0, none⟩, _) (by simp), hc (⟨D + 1 + 1, 0, none⟩, _) (by simp)⟩
    have hI0 : WI w u g b cap (D + 1 + 1 + 1) cs { ({ s with pos := o.addr } : Br) with P := s.P.wipeL (L.take 0) } wc := by
      refine ⟨hx1.below hBc, ?_, hB1.trans (Chg.of_below hBc), by omega⟩
      intro p hp
      rw [hcs] at hp
      simp only [List.mem_cons, List.not_mem_nil, or_false] at hp
      rcases hp with rfl | rfl | rfl | rfl | rfl
      · exact cell_keep y0 hBc
      · exact q0
      · exact q1
      · exact q2
      · exact q3
    have SQ := Between_seq hok D (D + 1) (D + 1 + 1) s.pos o.addr ⟨a0, a1⟩ ⟨t0, t1⟩
    rw [HL.out] at SQ
    have hful : s.P.wipeL (L.take L.length) = s.P.wipeL L := by rw [List.take_length]
    have HFU := Lib.hid hful
    have hsame := fun k => wipeL_same s.P (L.take k)
    have hstep := fun k hk => wipeL_take s.P L k hk
    clear hcs q0 q1 q2 q3 hful y0 d0 d1 hx1
    refine wpIn_rangeL (gf := 202) (lb := #[.pointer (some ⟨D, 0, none⟩), .pointer (some ⟨D + 1, 0, none⟩), .pointer (some ⟨D + 1 + 1, 0, none⟩)]) rfl (enters_of Try.func202 (by kernel_rfl) rfl)
      SQ (fun v hv => by obtain ⟨x, _, rfl⟩ := List.mem_map.1 hv; rfl)
      (fun k W => WI w u g b cap (D + 1 + 1 + 1) cs { ({ s with pos := o.addr } : Br) with P := s.P.wipeL (L.take k) } W)
      (fun c k W => False)
      (fun k act W => ∃ (hk : k < L.length), WI w u g b cap (D + 1 + 1 + 1) cs { ({ s with pos := o.addr } : Br) with P := s.P.wipeL (L.take k) } W ∧
        act = ⟨#[Value.pointer (some { block := u, off := 0 }), .agg #[.int .u8 o.kind, .int .i64 o.addr, .int .u8 o.byte, .bool o.ge, .slice r.pa o.pairs.length r.pc, .slice r.da o.data.length r.dc],
          Value.pointer (some { block := w.heap.size, off := 0 }),
          Value.pointer (some { block := w.heap.size + 1, off := 0 }), Value.int IntKind.i64 0,
          Value.int IntKind.i64 s.pos, Value.int IntKind.i64 0, .int .i64 L[k], Value.pointer (some { block := u, off := 0 }),
          Value.pointer (some { block := u, off := 0 }), Value.pointer (some { block := u, off := 1 }),
          Value.int IntKind.i64 s.pos, Value.pointer (some { block := u, off := 0 }),
          .agg #[.int .u8 o.kind, .int .i64 o.addr, .int .u8 o.byte, .bool o.ge, .slice r.pa o.pairs.length r.pc, .slice r.da o.data.length r.dc],
          Value.int IntKind.i64 0, Value.int IntKind.i64 0, Value.bool false, undef, u18, u19, u20, u21, u22, u23, u24,
          u25, u26, u27,
          Value.func (Fn.func 202) #[] #[Value.pointer (some { block := D, off := 0 }), Value.pointer (some { block := D + 1, off := 0 }), Value.pointer (some { block := D + 1 + 1, off := 0 })],
          .int .i64 L[k], u30, u31, u32, u33, u34, u35, u36, u37, u38, u39, u40, u41, u42], []⟩)
      (fun k W hi => ⟨(hget hi.cs).2.1, (hget hi.cs).2.2.1, (hget hi.cs).2.2.2.1, (hget hi.cs).2.2.2.2⟩)
      (fun k W W' hi ha => hi.aux (by omega) (hWD ▸ ha))
      (fun c k W W' hi ha => hi)
      (fun k a W W' ⟨hk, hi, e⟩ ha => ⟨hk, hi.aux (by omega) (hWD ▸ ha), e⟩)
      hI0 ?assign ?body ?done ?stop
    case assign =>
      rintro l k W hk hi
      have hk' : k < L.length := by simpa using hk
      simp only [List.getElem_map]
      gi_wp2
      exact keepsFrom_of_below (Below.refl _ _)
    case body =>
      rintro l k a1 W hk ⟨hk', hi, rfl⟩
      have hx := hrg L[k] (List.getElem_mem hk')
      have hst := hstep k hk'
      obtain ⟨c0, -, -, -, -⟩ := hget hi.cs
      have b0 := hi.br.c0
      have hlen := (hsame k).2.2.1
      obtain ⟨Q, hQ⟩ : ∃ Q, s.P.wipeL (L.take k) = Q := ⟨_, rfl⟩
      rw [hQ] at hi hlen hst
      obtain ⟨y, hy⟩ : ∃ y, L[k] = y := ⟨_, rfl⟩
      rw [hy] at hx hst ⊢
      have HST := Lib.hid hst
      clear hst hy hQ hsame hstep
      obtain ⟨x0, x1⟩ := hx
      rw [← hlen] at x1
      have hpl := hi.br.pl
      cases hop : Q.openAt y
      · have HOP := Lib.hid hop
        clear hop
        gi_wp2_with fail
        refine ⟨trivial, rfl, ?_⟩
        gi_at_call 58
        refine CallsIn.mono (CallsIn.inRound _ (callsIn_wide.2 (Open_any hpl _))) ?_
        rw [HOP.out]
        rintro e w4 ⟨rfl, hb4⟩
        gi_wp2
        refine ⟨keepsFrom_of_below hb4, ?_⟩
        have e1 : s.P.wipeL (L.take (k + 1)) = Q := by rw [HST.out, HOP.out]; rfl
        show WI w u g b cap _ cs { ({ s with pos := o.addr } : Br) with P := s.P.wipeL (L.take (k + 1)) } _
        rw [e1]
        exact hi.below hb4
      · have HOP := Lib.hid hop
        clear hop
        gi_wp2_with fail
        refine ⟨trivial, rfl, ?_⟩
        gi_at_call 58
        refine CallsIn.mono (CallsIn.inRound _ (callsIn_wide.2 (Open_any hpl _))) ?_
        rw [HOP.out]
        rintro e w4 ⟨rfl, hb4⟩
        have hi4 := hi.below hb4
        obtain ⟨c4, -, -, -, -⟩ := hget hi4.cs
        have b4 := hi4.br.c0
        gi_wp2_with fail
        refine ⟨trivial, rfl, ?_⟩
        gi_at_call 92
        refine CallsIn.mono (CallsIn.inRound _ (callsIn_wide.2 (Set_in hi4.br.pl y Cell.zero x0 x1 Cell.zero_ok))) ?_
        rintro e w5 ⟨rfl, hP5, hk5⟩
        gi_wp2
        refine ⟨(keepsFrom_of_below hb4).trans (keepsFrom_of_chg hk5 (fun k e => .inl (by subst e; omega))), ?_⟩
        have e1 : s.P.wipeL (L.take (k + 1)) = Q.set y Cell.zero := by rw [HST.out, HOP.out]; rfl
        show WI w u g b cap _ cs { ({ s with pos := o.addr } : Br) with P := s.P.wipeL (L.take (k + 1)) } _
        rw [e1]
        exact hi4.turn hcsb hP5 hk5 (Q.set_len _ _)
    case done =>
      rintro DD W hD hi hK
      have hsz := hi.sz
      gi_wp2
      refine ⟨by simp, .inl ⟨_, _, rfl, run_takeDeferred hK, ?_⟩⟩
      have hi2 := hi.aux (by omega) (Aux.put (.deferred none) (by omega) hK rfl)
      rw [List.length_map, HFU.out] at hi2
      refine ⟨.int .i64 0, ?_, rfl, by rw [HLN.out]; exact hi2.br, hi2.chg⟩
      simp [results, Try.f177, go_sem]
    case stop =>
      rintro DD c k W hD hk h
      exact h.elim
end Go.Proofs.Ytbkddgeocmkegaa
