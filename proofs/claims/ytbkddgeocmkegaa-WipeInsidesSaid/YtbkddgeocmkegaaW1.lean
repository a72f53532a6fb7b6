/- Lemmas on the way to this seat's statements; they bear no condition of their own. -/
import Derived.Test.YtbkddgeocmkegaaM0
import Derived.Lib.SliceRun
import Derived.BigFrame
namespace Go.Proofs.Ytbkddgeocmkegaa
open Go.RowKit Go.Shelf
set_option linter.unusedSimpArgs false
set_option linter.unusedVariables false
set_option maxHeartbeats 2000000
attribute [local go_sem ↓] run_start run_byte run_cols

/-! Planes, turned: attributes modified, all cleared. -/
theorem Places_any (g : Nat) (f : Fld) (w : World) :
    Calls Try.prog 113 #[.pointer (some ⟨g, 0, none⟩), .agg #[.int .i64 f.start, .int .i64 f.len, .int .u8 f.attr]] w fun e w' => e = .returned (.func (.func 165) #[] #[.pointer (some ⟨w.heap.size + 1, 0, none⟩), .pointer (some ⟨w.heap.size, 0, none⟩)]) ∧ (w.alloc (.cells #[.pointer (some ⟨g, 0, none⟩)] 52)).alloc (.cells #[.int .i64 f.start, .int .i64 f.len, .int .u8 f.attr] 89) = w' := by
  go_enter Try.func113, Try.ntmps113
  go_wp2
  go_ret
  exact ⟨rfl, rfl⟩

def Pl.mark (P : Pl) (s : Int) (on : Bool) : Pl := P.set s { P.at s with byte := modi (P.at s).byte on }
theorem mark_cell {P : Pl} (hok : P.ok) (s : Int) (on : Bool) : ({ P.at s with byte := modi (P.at s).byte on } : Cell).ok := by
  have h := Pl.at_ok hok s
  exact ⟨modi_ok h.1 on, h.2⟩

theorem modify_in {w : World} {g b cap : Nat} {P : Pl} (h : PL w g b cap P) (s : Int) (s0 : 0 ≤ s) (s1 : s < (P.cells.length : Int)) (on : Bool) :
    Calls Try.prog 147 #[.pointer (some ⟨g, 0, none⟩), .int .i64 s, .bool on] w fun e w' => e = .returned (.tuple #[]) ∧ PL w' g b cap (P.mark s on) ∧ Chg (· = b) w w' := by
  have hcok := mark_cell h.ok s on
  have hby := (Pl.at_ok h.ok s).1
  have E := Lib.hid (show P.mark s on = P.set s { P.at s with byte := modi (P.at s).byte on } from rfl)
  obtain ⟨x, hx⟩ : ∃ x, P.at s = x := ⟨_, rfl⟩
  have HX := Lib.hid hx
  rw [hx] at hcok hby E
  clear hx
  have hgl := h.gl
  have hbl := h.bl
  go_enter Try.func147, Try.ntmps147
  go_wp2_with fail
  refine (At_any h s).mono ?_
  rw [HX.out]
  rintro e w1 ⟨rfl, hb1⟩
  have hz1 := hb1.size
  go_wp2_with fail
  refine (Modify_any x.byte on _ hby).mono ?_
  rintro e w2 ⟨rfl, hb2⟩
  have hB2 : Below w.heap.size w w2 := by with_reducible (repeat (first | exact Below.refl _ _ | assumption | (refine Below.setCell ?_ (by first | omega | (simp; done) | (simp; omega)) _) | (refine Below.alloc ?_ (by first | omega | (simp; done) | (simp; omega)) _) | (refine below_drewN ?_ _) | (refine Below.drew ?_) | (refine Below.trans ?_ (Below.mono hb (by first | omega | (simp; done) | (simp; omega)))) | (refine Below.trans ?_ (Below.mono hb1 (by first | omega | (simp; done) | (simp; omega)))) | (refine Below.trans ?_ (Below.mono hb2 (by first | omega | (simp; done) | (simp; omega)))) | (refine Below.trans ?_ (Below.mono hb3 (by first | omega | (simp; done) | (simp; omega)))) | (refine Below.trans ?_ (Below.mono hb4 (by first | omega | (simp; done) | (simp; omega)))) | (refine Below.trans ?_ (Below.mono hb5 (by first | omega | (simp; done) | (simp; omega)))) | (refine Below.trans ?_ (Below.mono hb6 (by first | omega | (simp; done) | (simp; omega)))) | (refine Below.trans ?_ (Below.mono hb7 (by first | omega | (simp; done) | (simp; omega)))) | (refine Below.trans ?_ (Below.mono hb8 (by first | omega | (simp; done) | (simp; omega)))) | (refine Below.trans ?_ (Below.mono hb9 (by first | omega | (simp; done) | (simp; omega)))) | (refine Below.trans ?_ (Below.mono hb10 (by first | omega | (simp; done) | (simp; omega)))) | (refine Below.trans ?_ (Below.mono hb11 (by first | omega | (simp; done) | (simp; omega)))) | (refine Below.trans ?_ (Below.mono hb12 (by first | omega | (simp; done) | (simp; omega))))))
  have hz2 := hb2.size
  simp only [World.size_alloc] at hz2
  have y0 : w2.cell? ⟨w1.heap.size, 0, none⟩ = some (.int .u8 x.byte) := (hb2.cell (by simp)).trans (by simp [go_sem])
  have y1 : w2.cell? ⟨w1.heap.size, 1, none⟩ = some (.bool x.ge) := (hb2.cell (by simp)).trans (by simp [go_sem])
  have y2 : w2.cell? ⟨w1.heap.size, 2, none⟩ = some (.bool x.start) := (hb2.cell (by simp)).trans (by simp [go_sem])
  have y3 : w2.cell? ⟨w1.heap.size, 3, none⟩ = some (.int .u8 x.light) := (hb2.cell (by simp)).trans (by simp [go_sem])
  have y4 : w2.cell? ⟨w1.heap.size, 4, none⟩ = some (.int .u8 x.color) := (hb2.cell (by simp)).trans (by simp [go_sem])
  have yf : w2.frozen? ⟨w1.heap.size, 0, none⟩ = false := (hb2.frozen (by simp)).trans (by simp [go_sem])
  have hBs : Below w.heap.size w (w2.setCell ⟨w1.heap.size, 0, none⟩ (.int .u8 (modi x.byte on))) := hB2.setCell (by simp; omega) _
  clear hb1 hb2
  go_wp2_with fail
  refine (Set_in (h.below hBs) s { x with byte := modi x.byte on } s0 s1 hcok).mono ?_
  rintro e w3 ⟨rfl, hP3, hk3⟩
  go_wp2
  go_end0
  exact ⟨rfl, by rw [E.out]; exact hP3, chg_bel hBs hk3⟩

theorem Mark_some {w : World} {g b cap : Nat} {P : Pl} (h : PL w g b cap P) (i : Int) (hi : 0 ≤ P.before i) :
    Calls Try.prog 115 #[.pointer (some ⟨g, 0, none⟩), .int .i64 i] w fun e w' => e = .returned (.bool true) ∧ PL w' g b cap (P.mark (P.before i) true) ∧ Chg (· = b) w w' := by
  have hr := Pl.look_range h.ok i (-1)
  have s1 : P.before i < (P.cells.length : Int) := hr.2
  go_enter Try.func115, Try.ntmps115
  go_wp2_with fail
  refine (Before_any h _).mono ?_
  rintro e w1 ⟨rfl, hb1⟩
  have hz1 := hb1.size
  try simp only [World.size_alloc, World.size_drew, World.size_setCell] at hz1
  obtain ⟨hc1, hf1⟩ := bcell hb1
  go_wp2_with fail
  refine (modify_in (h.below hb1) _ hi s1 true).mono ?_
  rintro e w3 ⟨rfl, hP3, hk3⟩
  go_wp2
  go_ret
  exact ⟨rfl, hP3, chg_bel hb1 hk3⟩
theorem Mark_none {w : World} {g b cap : Nat} {P : Pl} (h : PL w g b cap P) (i : Int) (hi : ¬ 0 ≤ P.before i) :
    Calls Try.prog 115 #[.pointer (some ⟨g, 0, none⟩), .int .i64 i] w fun e w' => e = .returned (.bool false) ∧ Below w.heap.size w w' := by
  go_enter Try.func115, Try.ntmps115
  go_wp2_with fail
  refine (Before_any h _).mono ?_
  rintro e w1 ⟨rfl, hb1⟩
  have hz1 := hb1.size
  try simp only [World.size_alloc, World.size_drew, World.size_setCell] at hz1
  obtain ⟨hc1, hf1⟩ := bcell hb1
  go_wp2
  go_ret
  exact ⟨rfl, hb1⟩

theorem setCells_heap (b : Nat) (T : TypeId) (z : Nat × Nat) : ∀ (vs pre olds rest : List Value) (w : World), olds.length = vs.length → w.heap[b]? = some (.cells (pre ++ olds ++ rest).toArray T z) → (w.setCells b pre.length vs).heap[b]? = some (.cells (pre ++ vs ++ rest).toArray T z) := by
  intro vs
  induction vs with
  | nil =>
    intro pre olds rest w hl h
    have : olds = [] := List.eq_nil_of_length_eq_zero (by simpa using hl)
    subst this
    exact h
  | cons v vs ih =>
    intro pre olds rest w hl h
    match olds, hl with
    | o :: olds, hl =>
      show ((w.setCell ⟨b, pre.length, none⟩ v).setCells b (pre.length + 1) vs).heap[b]? = _
      have h1 := heap_set_same h pre.length v
      have e : (pre ++ o :: olds ++ rest).set pre.length v = (pre ++ [v]) ++ olds ++ rest := by simp
      rw [e] at h1
      have := ih (pre ++ [v]) olds rest _ (by simpa using hl) h1
      rw [List.length_append] at this
      rw [show pre.length + 1 = pre.length + [v].length from rfl, this]
      simp
theorem setCells_chg (b : Nat) : ∀ (vs : List Value) (o : Nat) (w w0 : World), Chg (· = b) w0 w → Chg (· = b) w0 (w.setCells b o vs) := by
  intro vs
  induction vs with
  | nil => intro o w w0 h; exact h
  | cons v vs ih => intro o w w0 h; exact ih (o + 1) _ w0 (h.setCell (a := ⟨b, o, none⟩) (.inl rfl) v)
theorem zero_flat (n : Nat) : (Builtin.zeroCells (Value.agg #[.int .u8 0, .bool false, .bool false, .int .u8 0, .int .u8 0]).cells n).toList = flat (List.replicate n Cell.zero) := by
  have := made_flat n
  unfold madeCells at this
  have e : Builtin.zeroCells (Value.agg #[.int .u8 0, .bool false, .bool false, .int .u8 0, .int .u8 0]).cells n = (flat (List.replicate n Cell.zero)).toArray := this
  rw [e]

theorem zeroCell (w : World) : (zeroValue 96).run Try.prog w = .ok (.agg #[.int .u8 0, .bool false, .bool false, .int .u8 0, .int .u8 0]) w := by kernel_rfl
theorem run_clear_cells {w : World} {b n c : Nat} {cs : List Cell} {rest : List Value} (ty : TypeId) (hn : 0 < n) (hl : cs.length = n) (hb : w.heap[b]? = some (.cells (flat cs ++ rest).toArray 96 (0, 0))) :
    (Builtin.clear_ #[75] ty #[.slice (some ⟨b, 0, none⟩) n c]).run Try.prog w = .ok (.tuple #[]) (w.setCells b 0 (flat (List.replicate n Cell.zero))) := by
  have hst := run_storeCells_cells (P := Try.prog) b 0 (flat (List.replicate n Cell.zero)) 0 w
    (by
      intro j hj
      rw [flat_len] at hj
      simp only [World.cell?, hb, Option.isSome_none, Bool.false_eq_true, if_false, List.getElem?_toArray, Nat.zero_add, Nat.add_zero]
      rw [List.getElem?_eq_getElem (by rw [List.length_append, flat_len]; simp at hj; omega)]
      rfl)
    (by intro j hj; simp [World.frozen?, hb])
    (flat_one _)
  simp only [Nat.add_zero] at hst
  obtain ⟨m, rfl⟩ : ∃ m, n = m + 1 := ⟨n - 1, by omega⟩
  simp [Builtin.clear_, run_underlying Try.underlying75, zeroCell, zero_flat, hst]

def Pl.clear (P : Pl) : Pl := { P with cells := List.replicate P.cells.length Cell.zero, cursor := 0 }
theorem Pl.clear_ok {P : Pl} (h : P.ok) : P.clear.ok :=
  ⟨h.r1, h.r2, h.c1, h.c2, h.n2, by simpa [Pl.clear] using h.len, Int.le_refl _, by have := Pl.N_pos h; have := h.len; show (0 : Int) < P.rows * P.cols; omega, fun d hd => by
    have := List.eq_of_mem_replicate hd; subst this; exact Cell.zero_ok⟩
theorem Clear_any {w : World} {g b cap : Nat} {P : Pl} (h : PL w g b cap P) :
    Calls Try.prog 163 #[.pointer (some ⟨g, 0, none⟩)] w fun e w' => e = .returned (.tuple #[]) ∧ PL w' g b cap P.clear ∧ Chg (fun k => k = g ∨ k = b) w w' := by
  obtain ⟨rest, hb⟩ := h.hb
  have hcl := fun ty => run_clear_cells (c := cap) ty (Pl.N_pos h.ok) rfl hb
  have f2 := h.f2
  have gl := h.gl
  have hk1 : Chg (· = b) w (w.setCells b 0 (flat (List.replicate P.cells.length Cell.zero))) := setCells_chg b _ _ _ _ (Chg.refl _ _)
  have hh := setCells_heap b 96 (0, 0) (flat (List.replicate P.cells.length Cell.zero)) [] (flat P.cells) rest w (by rw [flat_len, flat_len]; simp) hb
  simp only [List.nil_append, List.length_nil] at hh
  have hg1 : (w.setCells b 0 (flat (List.replicate P.cells.length Cell.zero))).heap[g]? = w.heap[g]? := hk1.block g gl h.ne
  obtain ⟨W, hW⟩ : ∃ W, w.setCells b 0 (flat (List.replicate P.cells.length Cell.zero)) = W := ⟨_, rfl⟩
  simp only [hW] at hcl hk1 hh hg1
  have hg2 := hg1.trans h.hg
  have f3 : W.cell? ⟨g, 3, none⟩ = some (.int .i64 P.cursor) := by simp [World.cell?, hg2]
  have fz : W.frozen? ⟨g, 3, none⟩ = false := by simp [World.frozen?, hg2]
  have hne := h.ne
  have hok := h.ok
  have HH := Lib.hid (And.intro hh hg2)
  clear hh hg1 hg2 hW hb h
  go_enter Try.func163, Try.ntmps163
  go_wp2_with (simp only [hcl])
  go_end0
  obtain ⟨hh, hg2⟩ := HH.out
  refine ⟨rfl, ⟨?_, ⟨rest, ?_⟩, hne, Pl.clear_ok hok⟩, (hk1.mono (fun _ _ e => .inr e)).setCell (.inl (.inl rfl)) _⟩
  · have := heap_set_same (l := [.int .i64 P.rows, .int .i64 P.cols, .slice (some ⟨b, 0, none⟩) P.cells.length cap, .int .i64 P.cursor]) hg2 3 (.int .i64 0)
    simpa [Pl.clear] using this
  · rw [Below.heap_setCell _ _ _ _ (Ne.symm hne)]
    exact hh
end Go.Proofs.Ytbkddgeocmkegaa
