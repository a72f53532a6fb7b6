/- Lemmas on the way to this seat's statements; they bear no condition of their own. -/
import Derived.Test.YtbkddgeocmkegaaRows
import Derived.Test.YtbkddgeocmkegaaM0
import Derived.WalkKit
import Derived.ProofKit
import Derived.OpenShut
import Derived.ShutString
import Derived.ChangeOld
import Derived.Below
import Derived.Deep.Slices
import Derived.Deep.Fields
import Derived.ChangeSame
import Derived.Lib.SmallJoins
namespace Go.Proofs.Ytbkddgeocmkegaa
open Go.ChangeShapes Go.WideShapes Go.ChangeAt Go.RowKit Go.Deep Go.Joins
set_option linter.unusedVariables false
set_option linter.unusedSimpArgs false

/-! Arguments, opened. -/
section
variable {H : Type} {enc : TypeId × Value → H} {P : Program} {w : World} {base : Nat} {spare : Nat → Bool} {held : Bool}
theorem open_slice_fields {t e : TypeId} {fs : Array Field} {fuel : Nat} {cs : List Value} {x : DataW H × List MemPlace} (ht : P.underlying t = some (.slice e)) (he : P.underlying e = some (.struct fs))
    (hone : oneCellFields P fs = true) (hC : P.cellsOf e = fs.size) (h : DataW.trod enc P w base spare held fuel t cs = some x) :
    (cs = [.slice none 0 0] ∧ x = (.nil, [])) ∨
    ∃ (a : Addr) (len cap m : Nat) (D : Nat → DataW H) (Pl : Nat → List MemPlace), cs = [.slice (some a) len cap] ∧ base ≤ a.block ∧ len ≤ cap ∧ cap ≤ maxLen ∧ m = (if spare a.block then cap else len) ∧
      x = (.slice ((List.range len).map D) ((List.range (m - len)).map fun j => D (len + j)), MemPlace.row a (m * fs.size) ++ (List.range m).flatMap Pl) ∧
      ∀ i, i < m → ∃ (ys : List (DataW H × List MemPlace)) (n : Nat), D i = .agg (ys.map (·.1)) ∧ Pl i = ys.flatMap (·.2) ∧ ys.length = fs.size ∧
        ∀ (j : Nat) (f : Field), fs[j]? = some f → ∃ (v : Value) (y : DataW H × List MemPlace), w.cell? (a.add (i * fs.size + j)) = some v ∧ ys[j]? = some y ∧ DataW.trod enc P w base spare held n f.type [v] = some y := by
  rcases open_slice ht h with h0 | ⟨a, len, cap, m, n, D, Pl, hcs, hb, hl, hm, hmm, hx, hi⟩
  · exact .inl h0
  · refine .inr ⟨a, len, cap, m, D, Pl, hcs, hb, hl, hm, hmm, by rw [hC] at hx; exact hx, fun i him => ?_⟩
    obtain ⟨cs', hc, ht'⟩ := hi i him
    rw [hC] at hc
    obtain ⟨ys, n', hn', hy, hlen, hyl, hf⟩ := DataW.trod_struct he ht'
    obtain ⟨_, hcl, hat⟩ := World.cells?_some hc
    simp only [Prod.mk.injEq] at hy
    refine ⟨ys, n', hy.1, hy.2, hyl, fun j f hj => ?_⟩
    obtain ⟨ho, hk⟩ := hone_of hone j f hj
    have hjl : j < fs.size := (Array.getElem?_eq_some_iff.1 hj).1
    have hcell := hat j hjl
    have hv : cs'[j]? = some (cs'[j]'(by omega)) := List.getElem?_eq_getElem (by omega)
    have h1 := hf j f hj
    rw [ho, hk] at h1
    have hone' : (cs'.drop j).take 1 = [cs'[j]'(by omega)] := by
      rw [List.drop_eq_getElem_cons (by omega)]
      rfl
    rw [hone'] at h1
    have hys : ys[j]? = some (ys[j]'(by omega)) := List.getElem?_eq_getElem (by omega)
    refine ⟨_, _, ?_, hys, h1.trans hys⟩
    rw [← Go.Deep.add_add, hcell, hv]
end

section
variable {H : Type} {enc : TypeId × Value → H} {W : World} {base : Nat} {spare : Nat → Bool} {held : Bool}
set_option maxRecDepth 100000 in
theorem open_size {r : Reach} {b0 : Nat} {v : Value} {d : DataW H} {p : List MemPlace} (hv : Value.okWide Try.prog W r b0 48 v) (h : DataW.Trod enc Try.prog W base spare held 48 v d p) :
    ∃ x y : Int, v = .agg #[.int .i64 x, .int .i64 y] := by
  obtain ⟨v0, v1, y0, y1, n, rfl, -, -, h0, h1⟩ := open_agg2 Try.underlying48 (by kernel_rfl) (by kernel_rfl) hv h
  obtain ⟨x, e0, -, -⟩ := DataW.trod_int Try.underlying3 h0
  obtain ⟨y, e1, -, -⟩ := DataW.trod_int Try.underlying3 h1
  simp at e0 e1
  subst e0 e1
  exact ⟨x, y, rfl⟩

theorem u8_wf {z : Int} (h : (Lit.int .u8 z).wf = true) : 0 ≤ z ∧ z ≤ 255 := by simpa [Lit.wf, IntKind.min, IntKind.max, IntKind.signed, IntKind.bits] using h

set_option maxRecDepth 100000 in
theorem open_cells {r : Reach} {b0 : Nat} {v : Value} {d : DataW H} {p : List MemPlace} (hv : Value.okWide Try.prog W r b0 75 v) (h : DataW.Trod enc Try.prog W base (fun _ => true) held 75 v d p) :
    ∃ (ao : Option Addr) (cs : List Cell) (cap : Nat), v = .slice ao cs.length cap ∧ ARow W ao cs := by
  obtain ⟨ao, len, cap, rfl⟩ := okWide_slice Try.underlying75 hv
  obtain ⟨fuel, hf⟩ := h
  rcases open_slice_fields Try.underlying75 Try.underlying96 (by kernel_rfl) (by kernel_rfl) hf with ⟨hcs, _⟩ | ⟨a, l, c, m, D, Pl, hcs, _, hl, hm, hmm, _, hel⟩
  · simp [Value.cells] at hcs
    obtain ⟨rfl, rfl, rfl⟩ := hcs
    exact ⟨none, [], 0, rfl, Nat.zero_le _, fun k hk => absurd hk (Nat.not_lt_zero _)⟩
  · simp [Value.cells] at hcs
    obtain ⟨rfl, rfl, rfl⟩ := hcs
    simp only [if_true] at hmm
    subst hmm
    obtain ⟨b, off, spot⟩ := a
    have hsp : 0 < len → spot = none := by
      intro h0
      obtain ⟨ys', n', -, -, -, hfl'⟩ := hel 0 (by omega)
      obtain ⟨v0', y0', c0', -, -⟩ := hfl' 0 _ rfl
      have e : (({ block := b, off := off, spot := spot } : Addr).add (0 * 5 + 0)) = ⟨b, off, spot⟩ := rfl
      have c1 : W.cell? ⟨b, off, spot⟩ = some v0' := c0'
      exact World.cell?_spot c1
    have key : ∀ i, i < len → ∃ x : Cell, x.ok ∧ spot = none ∧ W.cell? ⟨b, off + i * 5, none⟩ = some (.int .u8 x.byte) ∧ W.cell? ⟨b, off + i * 5 + 1, none⟩ = some (.bool x.ge) ∧ W.cell? ⟨b, off + i * 5 + 2, none⟩ = some (.bool x.start) ∧ W.cell? ⟨b, off + i * 5 + 3, none⟩ = some (.int .u8 x.light) ∧ W.cell? ⟨b, off + i * 5 + 4, none⟩ = some (.int .u8 x.color) := by
      intro i hi
      obtain ⟨ys, n, -, -, -, hfl⟩ := hel i (by omega)
      obtain ⟨v0, y0, c0, -, t0⟩ := hfl 0 _ rfl
      obtain ⟨v1, y1, c1, -, t1⟩ := hfl 1 _ rfl
      obtain ⟨v2, y2, c2, -, t2⟩ := hfl 2 _ rfl
      obtain ⟨v3, y3, c3, -, t3⟩ := hfl 3 _ rfl
      obtain ⟨v4, y4, c4, -, t4⟩ := hfl 4 _ rfl
      obtain ⟨z0, e0, -, w0⟩ := DataW.trod_int Try.underlying5 t0
      obtain ⟨z1, e1, -⟩ := DataW.trod_bool Try.underlying4 t1
      obtain ⟨z2, e2, -⟩ := DataW.trod_bool Try.underlying4 t2
      obtain ⟨z3, e3, -, w3⟩ := DataW.trod_int Try.underlying5 t3
      obtain ⟨z4, e4, -, w4⟩ := DataW.trod_int Try.underlying5 t4
      simp at e0 e1 e2 e3 e4
      subst e0 e1 e2 e3 e4
      have hspot : spot = none := hsp (by omega)
      subst hspot
      refine ⟨⟨z0, z1, z2, z3, z4⟩, ⟨u8_wf w0, u8_wf w3, u8_wf w4⟩, rfl, ?_, ?_, ?_, ?_, ?_⟩
      · rw [add_plain] at c0; exact c0
      · rw [add_plain] at c1; exact c1
      · rw [add_plain] at c2; exact c2
      · rw [add_plain] at c3; exact c3
      · rw [add_plain] at c4; exact c4
    obtain ⟨F, hF⟩ : ∃ F : Nat → Cell, ∀ i (hi : i < len), (F i).ok ∧ spot = none ∧ W.cell? ⟨b, off + i * 5, none⟩ = some (.int .u8 (F i).byte) ∧ W.cell? ⟨b, off + i * 5 + 1, none⟩ = some (.bool (F i).ge) ∧ W.cell? ⟨b, off + i * 5 + 2, none⟩ = some (.bool (F i).start) ∧ W.cell? ⟨b, off + i * 5 + 3, none⟩ = some (.int .u8 (F i).light) ∧ W.cell? ⟨b, off + i * 5 + 4, none⟩ = some (.int .u8 (F i).color) := by
      refine ⟨fun i => if hi : i < len then (key i hi).choose else Cell.zero, fun i hi => ?_⟩
      simp only [dif_pos hi]
      exact (key i hi).choose_spec
    refine ⟨some ⟨b, off, spot⟩, (List.range len).map F, _, by simp; rfl, ⟨by simp; omega, fun k hk => ?_⟩⟩
    have hk' : k < len := by simpa using hk
    obtain ⟨hok, rfl, r⟩ := hF k hk'
    simp only [List.getElem_map, List.getElem_range]
    exact ⟨hok, b, off, rfl, World.block_lt_of_cell? _ _ r.1, r⟩
end
theorem ownK : ownKnob Try.prog.godebug = none := by kernel_rfl
theorem laidOutK : laidOutB Try.prog = true := by kernel_rfl
end Go.Proofs.Ytbkddgeocmkegaa
