/- Lemmas on the way to this seat's statements; they bear no condition of their own. -/
import Derived.RangeFuncNested
import Derived.RangeFuncBound
import Derived.RangeFuncCalls
import Derived.RangeFuncLeaves
import Derived.Shelf.Abstract
import Derived.Shelf.RegionOpen
import Derived.WalkKit
/-! A range over a function whose values are a known row: one law for the caller, one form of the iterator's contract. -/
namespace Go.Proofs.Ytbkddgeocmkegaa
open Go.RowKit Go.Shelf

/-- What new blocks, and turns of blocks from B on that are no cells, leave. -/
structure Aux (B : Nat) (W W' : World) : Prop where
  os : W'.os = W.os
  tape : W'.tape = W.tape
  output : W'.output = W.output
  size : W.heap.size ≤ W'.heap.size
  block : ∀ k, k < W.heap.size → (k < B ∨ ∃ o, W.heap[k]? = some o ∧ o.isCells = true) → W'.heap[k]? = W.heap[k]?
theorem Aux.of_below {B : Nat} {W W' : World} (h : Below W.heap.size W W') : Aux B W W' := ⟨h.os, h.tape, h.output, h.size, fun k hk _ => h.block k hk⟩
theorem Aux.put {B : Nat} {W : World} {l : Nat} {o : Obj} (o' : Obj) (hB : B ≤ l) (hl : W.heap[l]? = some o) (ho : o.isCells = false) : Aux B W (W.putObj l o') :=
  ⟨rfl, rfl, rfl, by simp, fun k _ h => World.putObj_heap_other (fun e => by
    subst e
    rcases h with h | ⟨p, hp, hc⟩
    · omega
    · rw [hl] at hp; cases hp; rw [ho] at hc; cases hc)⟩
theorem Aux.cell {B : Nat} {W W' : World} (h : Aux B W W') {a : Addr} {v : Value} (hc : W.cell? a = some v) : W'.cell? a = some v := by
  have hlt := World.block_lt_of_cell? W a hc
  refine (World.cell?_of_block (w := W) (h.block a.block hlt (.inr ?_))).trans hc
  refine ⟨W.heap[a.block], Array.getElem?_eq_getElem hlt, ?_⟩
  unfold World.cell? at hc
  rw [Array.getElem?_eq_getElem hlt] at hc
  revert hc
  generalize W.heap[a.block] = o
  cases o <;> simp [Obj.isCells]
theorem Aux.cells {B : Nat} {W W' : World} (h : Aux B W W') {g : Nat} {c : Array Value} {T : TypeId} {z : Nat × Nat} (hg : W.heap[g]? = some (.cells c T z)) : W'.heap[g]? = some (.cells c T z) :=
  (h.block g (Array.getElem?_eq_some_iff.1 hg).1 (.inr ⟨_, hg, rfl⟩)).trans hg
theorem Aux.frozen {B : Nat} {W W' : World} (h : Aux B W W') {a : Addr} {v : Value} (hc : W.cell? a = some v) : W'.frozen? a = W.frozen? a := by
  have hlt := World.block_lt_of_cell? W a hc
  refine World.frozen?_of_block (w := W) (h.block a.block hlt (.inr ?_))
  refine ⟨W.heap[a.block], Array.getElem?_eq_getElem hlt, ?_⟩
  unfold World.cell? at hc
  rw [Array.getElem?_eq_getElem hlt] at hc
  revert hc
  generalize W.heap[a.block] = o
  cases o <;> simp [Obj.isCells]
theorem Aux.below {B n : Nat} {w W W' : World} (hb : Below n w W) (hn : n ≤ B) (hs : n ≤ w.heap.size) (h : Aux B W W') : Below n w W' :=
  ⟨h.os.trans hb.os, h.tape.trans hb.tape, h.output.trans hb.output, Nat.le_trans hb.size h.size, fun k hk => (h.block k (by have := hb.size; omega) (.inl (by omega))).trans (hb.block k hk)⟩

/-- THE ITERATOR's CONTRACT: it yields the row L. Rd k W: what it reads in W, k of them having come. -/
def SeqL (P : Program) (g : Nat) (lb : Array Value) (L : List (Array Value)) (Rd : Nat → World → Prop) : Prop :=
  ∀ (l : Nat) (J Jx : Nat → World → Prop) (W : World), (∀ k W, J k W → Rd k W) → (∀ k W W', J k W → Below W.heap.size W W' → J k W') → (∀ k W W', Jx k W → Below W.heap.size W W' → Jx k W') →
    (∀ k W1 (hk : k < L.length), J k W1 → YieldAt Fence.wide 0 P l L[k] W1 fun e W' =>
      (e = .returned (.bool true) ∧ J (k + 1) W') ∨ (e = .returned (.bool false) ∧ Jx (k + 1) W')) →
    J 0 W →
    CallsIn Fence.wide 0 P g (#[.func (.yield l) #[] #[]] ++ lb) W fun e W' => (∃ v, e = .returned v) ∧ (J L.length W' ∨ ∃ k, k ≤ L.length ∧ Jx k W')

/-- How the body of a round may be left. -/
def ownPostL (B : Nat) (I : Nat → World → Prop) (Ix : Code → Nat → World → Prop) (k : Nat) (W : World) : Exit → Act → World → Prop
  | .normal, _, W' => KeepsFrom B W W' ∧ I k W'
  | .ret, _, W' => KeepsFrom B W W' ∧ Ix .ret k W'
  | .exit id, _, W' => KeepsFrom B W W' ∧ Ix (.exit id) k W'
  | .goto t, _, W' => KeepsFrom B W W' ∧ Ix (.goto t) k W'
  | .panic _, _, _ => False
  | .outgrown, _, _ => False

variable {P : Program}
theorem wpIn_rangeL {g : Operand} {ps : Array Tmp} {assign body : Code} {Q : Exit → Act → World → Prop} {a : Act} {w : World}
    {gf : Nat} {lb : Array Value} (hg : a.eval g = .func (.func gf) #[] lb) (eg : ∀ args w, (callFunc gf args).run P w = .ok (.enter gf args) w)
    {L : List (Array Value)} {Rd : Nat → World → Prop} (hseq : SeqL P gf lb L Rd) (hps : ∀ v ∈ L, v.size = ps.size)
    (I : Nat → World → Prop) (Ix : Code → Nat → World → Prop) (M : Nat → Act → World → Prop)
    (hR : ∀ k W, I k W → Rd k W)
    (hI : ∀ k W W', I k W → Aux w.heap.size W W' → I k W') (hIx : ∀ c k W W', Ix c k W → Aux w.heap.size W W' → Ix c k W')
    (hM : ∀ k a W W', M k a W → Aux w.heap.size W W' → M k a W') (h0 : I 0 w)
    (hassign : ∀ (l k : Nat) (W : World) (hk : k < L.length), I k W →
      assign.wpIn (Fence.wide.inRound l) 0 P (Exit.then (fun a1 W1 => M k a1 W1 ∧ KeepsFrom w.heap.size W W1) (fun _ _ _ => False)) { tmps := (ps.zip L[k]).foldl (fun t (p, v) => t.setIfInBounds p v) a.tmps, defers := [] } W)
    (hbody : ∀ (l k : Nat) (a1 : Act) (W : World), k < L.length → M k a1 W → body.wpIn (Fence.wide.inRound l) 0 P (ownPostL w.heap.size I Ix (k + 1) W) a1 W)
    (hdone : ∀ (D : Nat) (W : World), w.heap.size ≤ D → I L.length W → W.heap[D]? = some (.deferred (some [])) → Q .normal { a with defers := { target := .collected D, args := #[] } :: a.defers } W)
    (hstop : ∀ (D : Nat) (c : Code) (k : Nat) (W : World), w.heap.size ≤ D → k ≤ L.length → Ix c k W → W.heap[D]? = some (.deferred (some [])) → c.wpIn Fence.wide 0 P Q { a with defers := { target := .collected D, args := #[] } :: a.defers } W) :
    (Code.rangeFunc g ps assign body).wpIn Fence.wide 0 P Q a w := by
  refine wpIn_rangeFunc ?_
  intro fn hfn
  obtain ⟨rec, hrec⟩ : ∃ rec : LoopState → Option Code → Loop, rec = fun st pe => { state := st, pending := pe, fn, tmps := a.tmps, params := ps, assign, body, defers := w.heap.size } := ⟨_, rfl⟩
  obtain ⟨W1, hW1⟩ : ∃ W1, (w.alloc (.deferred (some []))).alloc (.loop (rec .ready none)) = W1 := ⟨_, rfl⟩
  have hL1 : W1.heap[w.heap.size + 1]? = some (.loop (rec .ready none)) := by
    rw [← hW1]; have := World.alloc_heap_new (w.alloc (.deferred (some []))) (.loop (rec .ready none)); rwa [World.size_alloc] at this
  have hK1 : W1.heap[w.heap.size]? = some (.deferred (some [])) := by
    rw [← hW1]; exact (Below.heap_alloc _ _ _ (by simp)).trans (World.alloc_heap_new w _)
  have hb1 : Below w.heap.size w W1 := by
    rw [← hW1]; exact (((Below.refl _ w).alloc (Nat.le_refl _) _).alloc (by simp) _)
  have hI1 : I 0 W1 := hI _ _ _ h0 (.of_below hb1)
  refine ⟨w.heap.size + 1, [{ target := .collected w.heap.size, args := #[] }], W1, { target := .fn (.func gf) lb, args := #[.func (.yield (w.heap.size + 1)) #[] #[]] }, W1, gf,
    #[.func (.yield (w.heap.size + 1)) #[] #[]] ++ lb, W1, ?_, ?_, ?_, ?_, fun h => by simp [Fence.wide] at h, ?_⟩
  · rw [← hW1, hrec]; exact run_enterLoop_outer _ _ _ _ _
  · simp only [resolve, hg]
    simp [go_sem]
  · intro f' hf'; trivial
  · simp [invoke, go_sem, eg]
  · have hge : ∀ {k : Nat} {o : Obj} {A C : World}, A.heap[k]? = some o → Below A.heap.size A C → C.heap[k]? = some o := fun hk hb => (hb.block _ (Array.getElem?_eq_some_iff.1 hk).1).trans hk
    refine (hseq (w.heap.size + 1)
      (fun k W => I k W ∧ W.heap[w.heap.size + 1]? = some (.loop (rec .ready none)) ∧ W.heap[w.heap.size]? = some (.deferred (some [])))
      (fun k W => ∃ c, Ix c k W ∧ W.heap[w.heap.size + 1]? = some (.loop (rec .done (some c))) ∧ W.heap[w.heap.size]? = some (.deferred (some [])))
      W1 (fun k W h => hR k W h.1)
      (fun k A C h hb => ⟨hI _ _ _ h.1 (.of_below hb), hge h.2.1 hb, hge h.2.2 hb⟩)
      (fun k A C ⟨c, h⟩ hb => ⟨c, hIx _ _ _ _ h.1 (.of_below hb), hge h.2.1 hb, hge h.2.2 hb⟩)
      ?_ ⟨hI1, hL1, hK1⟩).mono ?_
    · -- one round
      rintro k W hk ⟨hi, hl, hdf⟩
      have hlt : w.heap.size + 1 < W.heap.size := (Array.getElem?_eq_some_iff.1 hl).1
      have hy := run_yield (P := P) (args := L[k]) hl (by rw [hrec]; exact hps _ (List.getElem_mem _))
      rw [hrec] at hy
      refine ⟨fn, _, assign, body, hy, roundIn_of_wpIn hfn (wpIn_mono (hassign _ k W hk hi) ?_)⟩
      rintro e a1 Wa hp
      cases e with
      | normal =>
        obtain ⟨hm, hka⟩ := hp
        have hla := hka.same _ _ (by omega) hl rfl
        have hda := hka.same _ _ (Nat.le_refl _) hdf rfl
        have hlta : w.heap.size + 1 < Wa.heap.size := (Array.getElem?_eq_some_iff.1 hla).1
        refine ⟨_, run_beginRound hla (by rw [hrec]), ?_⟩
        have hl2 : (Wa.putObj (w.heap.size + 1) (.loop { rec .ready none with state := .busy })).heap[w.heap.size + 1]? = some (.loop { rec .ready none with state := .busy }) := World.putObj_heap_same hlta
        have hk2 : (Wa.putObj (w.heap.size + 1) (.loop { rec .ready none with state := .busy })).heap[w.heap.size]? = some (.deferred (some [])) := (World.putObj_heap_other (by omega)).trans hda
        refine wpIn_mono (hbody (w.heap.size + 1) k a1 _ hk (hM _ _ _ _ hm (Aux.put _ (by omega) hla rfl))) ?_
        have fin : ∀ (jump : Option Code) (W3 : World), KeepsFrom w.heap.size (Wa.putObj (w.heap.size + 1) (.loop { rec .ready none with state := .busy })) W3 →
            (Instr.endRound (w.heap.size + 1) jump).run P W3 = .ok (.bool jump.isNone) (W3.putObj (w.heap.size + 1) (.loop (rec (if jump.isNone then .ready else .done) jump))) ∧
            W3.heap[w.heap.size + 1]? = some (.loop { rec .ready none with state := .busy }) ∧
            (W3.putObj (w.heap.size + 1) (.loop (rec (if jump.isNone then .ready else .done) jump))).heap[w.heap.size + 1]? = some (.loop (rec (if jump.isNone then .ready else .done) jump)) ∧
            (W3.putObj (w.heap.size + 1) (.loop (rec (if jump.isNone then .ready else .done) jump))).heap[w.heap.size]? = some (.deferred (some [])) := fun jump W3 hk3 => by
          have hl3 := hk3.same _ _ (by omega) hl2 rfl
          have := run_endRound (P := P) jump hl3
          rw [hrec] at this ⊢
          exact ⟨this, by rw [hrec] at hl3; exact hl3, World.putObj_heap_same (Array.getElem?_eq_some_iff.1 hl3).1, (World.putObj_heap_other (by omega)).trans (hk3.same _ _ (Nat.le_refl _) hk2 rfl)⟩
        rintro e a3 W3 hp
        cases e with
        | normal =>
          obtain ⟨hk3, hi3⟩ := hp
          obtain ⟨hr, hl3, hl4, hk4⟩ := fin none W3 hk3
          exact ⟨_, _, hr, .inl ⟨rfl, hI _ _ _ hi3 (Aux.put _ (by omega) hl3 rfl), hl4, hk4⟩⟩
        | ret =>
          obtain ⟨hk3, hi3⟩ := hp
          obtain ⟨hr, hl3, hl4, hk4⟩ := fin (some .ret) W3 hk3
          exact ⟨_, _, hr, .inr ⟨rfl, .ret, hIx _ _ _ _ hi3 (Aux.put _ (by omega) hl3 rfl), hl4, hk4⟩⟩
        | exit id =>
          obtain ⟨hk3, hi3⟩ := hp
          obtain ⟨hr, hl3, hl4, hk4⟩ := fin (some (.exit id)) W3 hk3
          exact ⟨_, _, hr, .inr ⟨rfl, .exit id, hIx _ _ _ _ hi3 (Aux.put _ (by omega) hl3 rfl), hl4, hk4⟩⟩
        | goto t =>
          obtain ⟨hk3, hi3⟩ := hp
          obtain ⟨hr, hl3, hl4, hk4⟩ := fin (some (.goto t)) W3 hk3
          exact ⟨_, _, hr, .inr ⟨rfl, .goto t, hIx _ _ _ _ hi3 (Aux.put _ (by omega) hl3 rfl), hl4, hk4⟩⟩
        | panic ch => exact hp.elim
        | outgrown => exact hp.elim
      | ret => exact hp.elim
      | exit id => exact hp.elim
      | goto t => exact hp.elim
      | panic ch => exact hp.elim
      | outgrown => exact hp.elim
    · rintro e W2 ⟨⟨v, rfl⟩, (⟨hi, hl, hk⟩ | ⟨k, hkl, c, hi, hl, hk⟩)⟩
      · exact ⟨none, _, by have := run_endLoop (P := P) hl (by rw [hrec]; simp); rw [hrec] at this; exact this, hdone _ _ (Nat.le_refl _) (hI _ _ _ hi (Aux.put _ (by omega) hl rfl)) ((World.putObj_heap_other (by omega)).trans hk)⟩
      · exact ⟨some c, _, by have := run_endLoop (P := P) hl (by rw [hrec]; simp); rw [hrec] at this; exact this, hstop _ c k _ (Nat.le_refl _) hkl (hIx _ _ _ _ hi (Aux.put _ (by omega) hl rfl)) ((World.putObj_heap_other (by omega)).trans hk)⟩
end Go.Proofs.Ytbkddgeocmkegaa
