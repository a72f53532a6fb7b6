/- Lemmas on the way to this seat's statements; they bear no condition of their own. -/
import Derived.Test.YtbkddgeocmkegaaCPainC1
import Derived.Stop.RegionWithIn
import Derived.Sort.CutIn
import Derived.Lib.MinMax
import Derived.Deep.AppendLies
import Derived.OwnWalk
import Derived.WalkSpells
import Derived.Laws.StructEq
namespace Go.Proofs.Ytbkddgeocmkegaa
open Go.RowKit Go.Shelf
set_option linter.unusedSimpArgs false
set_option linter.unusedVariables false
set_option maxHeartbeats 2000000
attribute [local go_sem ↓] run_start run_byte run_cols
attribute [local go_sem] Oper.semAt_some

/-- The places of a field's cells. -/
def placesN (n : Int) (f : Fld) : Nat := if 0 ≤ f.start ∧ f.start < n then (min (max f.len 0) n).toNat else 0
def places (n : Int) (f : Fld) : List Int := List.map (fun (i : Nat) => (f.start + ((i : Int) + 1)) % n) (List.range (placesN n f))
theorem places_len (n : Int) (f : Fld) : (places n f).length = placesN n f := by simp [places]
theorem places_get (n : Int) (f : Fld) (k : Nat) (h : k < (places n f).length) : (places n f)[k] = (f.start + ((k : Int) + 1)) % n := by simp [places]

/-- In W lies a plane of P0's size. -/
def SizeOf (P0 : Pl) (g b cap : Nat) (W : World) : Prop := ∃ P, PL W g b cap P ∧ P.rows = P0.rows ∧ P.cols = P0.cols ∧ P.cells.length = P0.cells.length
theorem SizeOf.below {P0 : Pl} {g b cap : Nat} {W W' : World} (h : SizeOf P0 g b cap W) (hb : Below W.heap.size W W') : SizeOf P0 g b cap W' :=
  let ⟨P, hP, h⟩ := h; ⟨P, hP.below hb, h⟩
theorem Len_of {P0 : Pl} {g b cap : Nat} {w : World} (h : SizeOf P0 g b cap w) :
    Calls Try.prog 25 #[.pointer (some ⟨g, 0, none⟩)] w fun e w' => e = .returned (.int .i64 (P0.cells.length : Int)) ∧ Below w.heap.size w w' := by
  obtain ⟨P, hP, _, _, hl⟩ := h
  rw [← hl]
  exact Len_any hP
theorem Size_of {P0 : Pl} {g b cap : Nat} {w : World} (h : SizeOf P0 g b cap w) :
    Calls Try.prog 101 #[.pointer (some ⟨g, 0, none⟩)] w fun e w' => e = .returned (.agg #[.int .i64 P0.rows, .int .i64 P0.cols]) ∧ Below w.heap.size w w' := by
  obtain ⟨P, hP, hr, hc, _⟩ := h
  rw [← hr, ← hc]
  exact Size_any hP

structure RdP (B1 B2 g b cap : Nat) (P0 : Pl) (f : Fld) (k : Nat) (W : World) : Prop where
  c0 : W.cell? ⟨B1, 0, none⟩ = some (.int .i64 f.start)
  c1 : W.cell? ⟨B1, 1, none⟩ = some (.int .i64 f.len)
  c2 : W.cell? ⟨B2, 0, none⟩ = some (.pointer (some ⟨g, 0, none⟩))
  pl : SizeOf P0 g b cap W

/-- A round has gone on, or has said that no more is wanted. -/
def YOut (J Jx : World → Prop) (t : Value) (w' : World) : Prop := ∃ bb : Bool, t = .bool (!bb) ∧ ((bb = true ∧ J w') ∨ (bb = false ∧ Jx w'))

set_option maxRecDepth 100000 in
theorem Places_seq {P0 : Pl} (hok : P0.ok) (B1 B2 g b cap : Nat) (f : Fld) (hs0 : 0 ≤ f.start) (hs1 : f.start < (P0.cells.length : Int)) :
    SeqL Try.prog 165 #[.pointer (some ⟨B1, 0, none⟩), .pointer (some ⟨B2, 0, none⟩)] ((places (P0.cells.length : Int) f).map fun x => #[.int .i64 x]) (RdP B1 B2 g b cap P0 f) := by
  intro l J Jx W hR hJ hJx hY h0
  have hm := Pl.N_le hok
  have hn := Pl.N_pos hok
  obtain ⟨c0, c1, c2, hP⟩ := hR 0 W h0
  have HN := Lib.hid (show (placesN (P0.cells.length : Int) f : Int) = min (max f.len 0) (P0.cells.length : Int) by unfold placesN; rw [if_pos ⟨hs0, hs1⟩]; omega)
  have hd : decide (f.start < 0) = false := by simpa using hs0
  refine callsIn_of_wp Try.func165 rfl trivial ?_ rfl
  simp only [Try.ntmps165, List.size_toArray, List.length_cons, List.length_nil, Nat.reduceAdd, Nat.reduceSub, Array.replicate_succ, Array.replicate_zero, List.push_toArray, List.append_toArray, List.nil_append, List.cons_append]
  gi_wp2_with fail
  gi_cut [14] from 5 (fun t w' => t = .bool (decide ((P0.cells.length : Int) ≤ f.start)) ∧ J 0 w')
  case first =>
    gi_region_with (refine ⟨trivial, rfl, CallsIn.mono (callsIn_wide.2 (Len_of (hP.below (by with_reducible (repeat (first | exact Below.refl _ _ | assumption | (refine Below.setCell ?_ (by first | omega | (simp; done) | (simp; omega)) _) | (refine Below.alloc ?_ (by first | omega | (simp; done) | (simp; omega)) _) | (refine below_drewN ?_ _) | (refine Below.drew ?_) | (refine Below.trans ?_ (Below.mono hb (by first | omega | (simp; done) | (simp; omega)))) | (refine Below.trans ?_ (Below.mono hb1 (by first | omega | (simp; done) | (simp; omega)))) | (refine Below.trans ?_ (Below.mono hb2 (by first | omega | (simp; done) | (simp; omega)))) | (refine Below.trans ?_ (Below.mono hb3 (by first | omega | (simp; done) | (simp; omega)))) | (refine Below.trans ?_ (Below.mono hb4 (by first | omega | (simp; done) | (simp; omega)))) | (refine Below.trans ?_ (Below.mono hb5 (by first | omega | (simp; done) | (simp; omega)))) | (refine Below.trans ?_ (Below.mono hb6 (by first | omega | (simp; done) | (simp; omega)))) | (refine Below.trans ?_ (Below.mono hb7 (by first | omega | (simp; done) | (simp; omega)))) | (refine Below.trans ?_ (Below.mono hb8 (by first | omega | (simp; done) | (simp; omega)))) | (refine Below.trans ?_ (Below.mono hb9 (by first | omega | (simp; done) | (simp; omega)))) | (refine Below.trans ?_ (Below.mono hb10 (by first | omega | (simp; done) | (simp; omega)))) | (refine Below.trans ?_ (Below.mono hb11 (by first | omega | (simp; done) | (simp; omega)))) | (refine Below.trans ?_ (Below.mono hb12 (by first | omega | (simp; done) | (simp; omega)))))))))) ?_⟩; rintro e w1 ⟨rfl, hb1⟩; have hJ1 : J 0 w1 := hJ 0 W w1 h0 (by with_reducible (repeat (first | exact Below.refl _ _ | assumption | (refine Below.setCell ?_ (by first | omega | (simp; done) | (simp; omega)) _) | (refine Below.alloc ?_ (by first | omega | (simp; done) | (simp; omega)) _) | (refine below_drewN ?_ _) | (refine Below.drew ?_) | (refine Below.trans ?_ (Below.mono hb (by first | omega | (simp; done) | (simp; omega)))) | (refine Below.trans ?_ (Below.mono hb1 (by first | omega | (simp; done) | (simp; omega)))) | (refine Below.trans ?_ (Below.mono hb2 (by first | omega | (simp; done) | (simp; omega)))) | (refine Below.trans ?_ (Below.mono hb3 (by first | omega | (simp; done) | (simp; omega)))) | (refine Below.trans ?_ (Below.mono hb4 (by first | omega | (simp; done) | (simp; omega)))) | (refine Below.trans ?_ (Below.mono hb5 (by first | omega | (simp; done) | (simp; omega)))) | (refine Below.trans ?_ (Below.mono hb6 (by first | omega | (simp; done) | (simp; omega)))) | (refine Below.trans ?_ (Below.mono hb7 (by first | omega | (simp; done) | (simp; omega)))) | (refine Below.trans ?_ (Below.mono hb8 (by first | omega | (simp; done) | (simp; omega)))) | (refine Below.trans ?_ (Below.mono hb9 (by first | omega | (simp; done) | (simp; omega)))) | (refine Below.trans ?_ (Below.mono hb10 (by first | omega | (simp; done) | (simp; omega)))) | (refine Below.trans ?_ (Below.mono hb11 (by first | omega | (simp; done) | (simp; omega)))) | (refine Below.trans ?_ (Below.mono hb12 (by first | omega | (simp; done) | (simp; omega))))))); have q0 := (hR 0 w1 hJ1).c0; have q1 := (hR 0 w1 hJ1).c1; have q2 := (hR 0 w1 hJ1).c2)
    all_goals (gi_wp2; gi_meet; case rel => exact ⟨rfl, by assumption⟩)
  case rest =>
    obtain ⟨rfl, hJ1⟩ := hcut
    clear c0 c1 c2 hP
    obtain ⟨c0, c1, c2, hP⟩ := hR 0 _ hJ1
    have hd1 : decide ((P0.cells.length : Int) ≤ f.start) = false := by simpa using hs1
    gi_wp2_with fail
    gi_cut [20, 21] from 5 (fun t u w' => t = .int .i64 (placesN (P0.cells.length : Int) f : Int) ∧ u = .int .i64 0 ∧ J 0 w')
    case first =>
      gi_region_with (refine ⟨trivial, rfl, CallsIn.mono (callsIn_wide.2 (Len_of (hP.below (by with_reducible (repeat (first | exact Below.refl _ _ | assumption | (refine Below.setCell ?_ (by first | omega | (simp; done) | (simp; omega)) _) | (refine Below.alloc ?_ (by first | omega | (simp; done) | (simp; omega)) _) | (refine below_drewN ?_ _) | (refine Below.drew ?_) | (refine Below.trans ?_ (Below.mono hb (by first | omega | (simp; done) | (simp; omega)))) | (refine Below.trans ?_ (Below.mono hb1 (by first | omega | (simp; done) | (simp; omega)))) | (refine Below.trans ?_ (Below.mono hb2 (by first | omega | (simp; done) | (simp; omega)))) | (refine Below.trans ?_ (Below.mono hb3 (by first | omega | (simp; done) | (simp; omega)))) | (refine Below.trans ?_ (Below.mono hb4 (by first | omega | (simp; done) | (simp; omega)))) | (refine Below.trans ?_ (Below.mono hb5 (by first | omega | (simp; done) | (simp; omega)))) | (refine Below.trans ?_ (Below.mono hb6 (by first | omega | (simp; done) | (simp; omega)))) | (refine Below.trans ?_ (Below.mono hb7 (by first | omega | (simp; done) | (simp; omega)))) | (refine Below.trans ?_ (Below.mono hb8 (by first | omega | (simp; done) | (simp; omega)))) | (refine Below.trans ?_ (Below.mono hb9 (by first | omega | (simp; done) | (simp; omega)))) | (refine Below.trans ?_ (Below.mono hb10 (by first | omega | (simp; done) | (simp; omega)))) | (refine Below.trans ?_ (Below.mono hb11 (by first | omega | (simp; done) | (simp; omega)))) | (refine Below.trans ?_ (Below.mono hb12 (by first | omega | (simp; done) | (simp; omega)))))))))) ?_⟩; rintro e w1 ⟨rfl, hb1⟩; have hJ1 : J 0 w1 := hJ 0 _ w1 hJ1 (by with_reducible (repeat (first | exact Below.refl _ _ | assumption | (refine Below.setCell ?_ (by first | omega | (simp; done) | (simp; omega)) _) | (refine Below.alloc ?_ (by first | omega | (simp; done) | (simp; omega)) _) | (refine below_drewN ?_ _) | (refine Below.drew ?_) | (refine Below.trans ?_ (Below.mono hb (by first | omega | (simp; done) | (simp; omega)))) | (refine Below.trans ?_ (Below.mono hb1 (by first | omega | (simp; done) | (simp; omega)))) | (refine Below.trans ?_ (Below.mono hb2 (by first | omega | (simp; done) | (simp; omega)))) | (refine Below.trans ?_ (Below.mono hb3 (by first | omega | (simp; done) | (simp; omega)))) | (refine Below.trans ?_ (Below.mono hb4 (by first | omega | (simp; done) | (simp; omega)))) | (refine Below.trans ?_ (Below.mono hb5 (by first | omega | (simp; done) | (simp; omega)))) | (refine Below.trans ?_ (Below.mono hb6 (by first | omega | (simp; done) | (simp; omega)))) | (refine Below.trans ?_ (Below.mono hb7 (by first | omega | (simp; done) | (simp; omega)))) | (refine Below.trans ?_ (Below.mono hb8 (by first | omega | (simp; done) | (simp; omega)))) | (refine Below.trans ?_ (Below.mono hb9 (by first | omega | (simp; done) | (simp; omega)))) | (refine Below.trans ?_ (Below.mono hb10 (by first | omega | (simp; done) | (simp; omega)))) | (refine Below.trans ?_ (Below.mono hb11 (by first | omega | (simp; done) | (simp; omega)))) | (refine Below.trans ?_ (Below.mono hb12 (by first | omega | (simp; done) | (simp; omega))))))); have q0 := (hR 0 w1 hJ1).c0; have q1 := (hR 0 w1 hJ1).c1; have q2 := (hR 0 w1 hJ1).c2)
      all_goals (gi_wp2; gi_meet; case rel => exact ⟨by rw [HN.out], rfl, by assumption⟩)
    case rest =>
      obtain ⟨rfl, rfl, hJ2⟩ := hcut
      clear c0 c1 c2 hP hJ1
      gi_wp2
      gi_loopw [21] (fun i wr => ∃ k : Nat, k ≤ placesN (P0.cells.length : Int) f ∧ i = .int .i64 (k : Int) ∧ J k wr) (fun i _ => placesN (P0.cells.length : Int) f - (intOf i).toNat)
      case atStart => exact ⟨0, Nat.zero_le _, rfl, hJ2⟩
      case round =>
        obtain ⟨k, hk, rfl, hJk⟩ := hrel
        clear hJ2
        have hb9 : placesN (P0.cells.length : Int) f ≤ 4096 := by have := HN.out; omega
        by_cases hlt : k < placesN (P0.cells.length : Int) f
        · obtain ⟨c0, c1, c2, hP⟩ := hR k _ hJk
          have hYk : ∀ W1, J k W1 → YieldAt Fence.wide 0 Try.prog l #[.int .i64 ((f.start + ((k : Int) + 1)) % (P0.cells.length : Int))] W1 fun e W' => (e = .returned (.bool true) ∧ J (k + 1) W') ∨ (e = .returned (.bool false) ∧ Jx (k + 1) W') := by
            intro W1 h1
            have := hY k W1 (by simpa [places] using hlt) h1
            simpa only [List.getElem_map, places_get] using this
          have hw : IntKind.i64.wrap ((k : Int) + 1) = (k : Int) + 1 := IntWalk.i64_in _ (by omega)
          clear hY
          gi_wp2_with fail
          gi_cut [33] from 22 (fun t w' => YOut (J (k + 1)) (Jx (k + 1)) t w')
          case first =>
            gi_region_with (first
              | (refine ⟨trivial, rfl, ?_⟩; gi_at_call 101; refine CallsIn.mono (callsIn_wide.2 (Size_of (hP.below (by with_reducible (repeat (first | exact Below.refl _ _ | assumption | (refine Below.setCell ?_ (by first | omega | (simp; done) | (simp; omega)) _) | (refine Below.alloc ?_ (by first | omega | (simp; done) | (simp; omega)) _) | (refine below_drewN ?_ _) | (refine Below.drew ?_) | (refine Below.trans ?_ (Below.mono hb (by first | omega | (simp; done) | (simp; omega)))) | (refine Below.trans ?_ (Below.mono hb1 (by first | omega | (simp; done) | (simp; omega)))) | (refine Below.trans ?_ (Below.mono hb2 (by first | omega | (simp; done) | (simp; omega)))) | (refine Below.trans ?_ (Below.mono hb3 (by first | omega | (simp; done) | (simp; omega)))) | (refine Below.trans ?_ (Below.mono hb4 (by first | omega | (simp; done) | (simp; omega)))) | (refine Below.trans ?_ (Below.mono hb5 (by first | omega | (simp; done) | (simp; omega)))) | (refine Below.trans ?_ (Below.mono hb6 (by first | omega | (simp; done) | (simp; omega)))) | (refine Below.trans ?_ (Below.mono hb7 (by first | omega | (simp; done) | (simp; omega)))) | (refine Below.trans ?_ (Below.mono hb8 (by first | omega | (simp; done) | (simp; omega)))) | (refine Below.trans ?_ (Below.mono hb9 (by first | omega | (simp; done) | (simp; omega)))) | (refine Below.trans ?_ (Below.mono hb10 (by first | omega | (simp; done) | (simp; omega)))) | (refine Below.trans ?_ (Below.mono hb11 (by first | omega | (simp; done) | (simp; omega)))) | (refine Below.trans ?_ (Below.mono hb12 (by first | omega | (simp; done) | (simp; omega)))))))))) ?_; rintro e w1 ⟨rfl, hb1⟩; have hJ1 := hJ k _ w1 hJk (by with_reducible (repeat (first | exact Below.refl _ _ | assumption | (refine Below.setCell ?_ (by first | omega | (simp; done) | (simp; omega)) _) | (refine Below.alloc ?_ (by first | omega | (simp; done) | (simp; omega)) _) | (refine below_drewN ?_ _) | (refine Below.drew ?_) | (refine Below.trans ?_ (Below.mono hb (by first | omega | (simp; done) | (simp; omega)))) | (refine Below.trans ?_ (Below.mono hb1 (by first | omega | (simp; done) | (simp; omega)))) | (refine Below.trans ?_ (Below.mono hb2 (by first | omega | (simp; done) | (simp; omega)))) | (refine Below.trans ?_ (Below.mono hb3 (by first | omega | (simp; done) | (simp; omega)))) | (refine Below.trans ?_ (Below.mono hb4 (by first | omega | (simp; done) | (simp; omega)))) | (refine Below.trans ?_ (Below.mono hb5 (by first | omega | (simp; done) | (simp; omega)))) | (refine Below.trans ?_ (Below.mono hb6 (by first | omega | (simp; done) | (simp; omega)))) | (refine Below.trans ?_ (Below.mono hb7 (by first | omega | (simp; done) | (simp; omega)))) | (refine Below.trans ?_ (Below.mono hb8 (by first | omega | (simp; done) | (simp; omega)))) | (refine Below.trans ?_ (Below.mono hb9 (by first | omega | (simp; done) | (simp; omega)))) | (refine Below.trans ?_ (Below.mono hb10 (by first | omega | (simp; done) | (simp; omega)))) | (refine Below.trans ?_ (Below.mono hb11 (by first | omega | (simp; done) | (simp; omega)))) | (refine Below.trans ?_ (Below.mono hb12 (by first | omega | (simp; done) | (simp; omega))))))); have q0 := (hR k w1 hJ1).c0; have q2 := (hR k w1 hJ1).c2)
              | (refine ⟨trivial, rfl, ?_⟩; gi_at_call 161; refine CallsIn.mono (callsIn_wide.2 (Move_P hok _ _ _)) ?_; rintro e w2 ⟨rfl, hb2⟩; have hJ2 := hJ k _ w2 hJ1 hb2; obtain ⟨fn, tmps, assign, body, hy, hRd⟩ := hYk w2 hJ2)
              | (refine ⟨rfl, hRd.mono ?_⟩; rintro e W3 hor; obtain ⟨bb, rfl, hq⟩ : ∃ bb : Bool, e = .returned (.bool bb) ∧ ((bb = true ∧ J (k + 1) W3) ∨ (bb = false ∧ Jx (k + 1) W3)) := by (rcases hor with ⟨rfl, h⟩ | ⟨rfl, h⟩; exact ⟨true, rfl, .inl ⟨rfl, h⟩⟩; exact ⟨false, rfl, .inr ⟨rfl, h⟩⟩)))
            all_goals (gi_wp2; gi_meet; case rel => exact ⟨bb, rfl, hq⟩)
          case rest =>
            obtain ⟨bb, rfl, ⟨rfl, hJ3⟩ | ⟨rfl, hJ3⟩⟩ := hcut
            · gi_wp2
              go_roundw
              case rel => exact ⟨k + 1, by omega, by go_num, hJ3⟩
              case measure => simp [intOf]; omega
            · gi_wp2
              refine bodyPost_ret (results_none rfl _ _ _) rfl ?_
              exact ⟨⟨_, rfl⟩, .inr ⟨k + 1, by simp only [List.length_map, places_len]; omega, hJ3⟩⟩
        · obtain rfl : k = placesN (P0.cells.length : Int) f := by omega
          gi_wp2
          go_end0
          exact ⟨⟨_, rfl⟩, .inl (by simp only [List.length_map, places_len]; exact hJk)⟩
end Go.Proofs.Ytbkddgeocmkegaa

/-! The starts of a plane's fields, in order. -/
namespace Go.Proofs.Ytbkddgeocmkegaa

def Pl.isSt (P : Pl) (i : Nat) : Bool := (P.at (i : Int)).start
def Pl.starts (P : Pl) : List Nat := (List.range P.cells.length).filter P.isSt
def Pl.cnt (P : Pl) (i : Nat) : Nat := ((List.range i).filter P.isSt).length
theorem Pl.cnt_zero (P : Pl) : P.cnt 0 = 0 := rfl
theorem Pl.cnt_succ (P : Pl) (i : Nat) : P.cnt (i + 1) = P.cnt i + if P.isSt i then 1 else 0 := by
  unfold Pl.cnt
  rw [List.range_succ, List.filter_append, List.length_append]
  cases h : P.isSt i <;> simp [h]
theorem Pl.cnt_n (P : Pl) : P.cnt P.cells.length = P.starts.length := rfl
theorem Pl.cnt_le (P : Pl) {i j : Nat} (h : i ≤ j) : P.cnt i ≤ P.cnt j := by
  induction h with
  | refl => exact Nat.le_refl _
  | step _ ih => rw [Pl.cnt_succ]; omega
theorem Pl.starts_split (P : Pl) {i : Nat} (h : i ≤ P.cells.length) : ∃ r, P.starts = (List.range i).filter P.isSt ++ r := by
  obtain ⟨m, hm⟩ : ∃ m, P.cells.length = i + m := ⟨P.cells.length - i, by omega⟩
  unfold Pl.starts
  rw [hm, List.range_add, List.filter_append]
  exact ⟨_, rfl⟩
theorem Pl.starts_at (P : Pl) {i : Nat} (h : i < P.cells.length) (hs : P.isSt i = true) : P.starts[P.cnt i]? = some i := by
  obtain ⟨r, hr⟩ := P.starts_split (i := i + 1) (by omega)
  rw [hr, List.range_succ, List.filter_append]
  simp [Pl.cnt, hs]
theorem Pl.starts_mem (P : Pl) {i : Nat} (h : i ∈ P.starts) : i < P.cells.length ∧ P.isSt i = true := by
  unfold Pl.starts at h
  rw [List.mem_filter] at h
  exact ⟨by simpa using h.1, h.2⟩

/-- The same size and the same attributes' places. -/
structure SameSt (P0 P : Pl) : Prop where
  rows : P.rows = P0.rows
  cols : P.cols = P0.cols
  len : P.cells.length = P0.cells.length
  st : ∀ j : Int, (P.at j).start = (P0.at j).start
theorem SameSt.refl (P : Pl) : SameSt P P := ⟨rfl, rfl, rfl, fun _ => rfl⟩
theorem SameSt.trans {A B C : Pl} (h : SameSt A B) (k : SameSt B C) : SameSt A C := ⟨k.rows.trans h.rows, k.cols.trans h.cols, k.len.trans h.len, fun j => (k.st j).trans (h.st j)⟩
theorem SameSt.look {P0 P : Pl} (h : SameSt P0 P) (a s : Int) : P.look a s = P0.look a s := by
  have e : P.stp a s = P0.stp a s := by funext i; unfold Pl.stp; rw [h.len]; exact h.st _
  unfold Pl.look
  rw [e, h.len]
theorem SameSt.after {P0 P : Pl} (h : SameSt P0 P) (a : Int) : P.after a = P0.after a := by unfold Pl.after; rw [h.len, h.look]
theorem SameSt.before {P0 P : Pl} (h : SameSt P0 P) (a : Int) : P.before a = P0.before a := h.look _ _
theorem SameSt.fld {P0 P : Pl} (h : SameSt P0 P) (i : Int) (hi : (P.at i).byte = (P0.at i).byte) : P.fld i = P0.fld i := by unfold Pl.fld; rw [h.after, h.len, hi]
theorem SameSt.isSt {P0 P : Pl} (h : SameSt P0 P) (i : Nat) : P.isSt i = P0.isSt i := h.st _

theorem Pl.at_set (P : Pl) (i : Int) (c : Cell) (h0 : 0 ≤ i) (h1 : i < (P.cells.length : Int)) (j : Int) : (P.set i c).at j = if j = i then c else P.at j := by
  unfold Pl.at Pl.set
  simp only [List.length_set]
  by_cases hj : 0 ≤ j ∧ j < (P.cells.length : Int)
  · rw [if_pos hj, if_pos hj, getD_lt _ _ _ (by simp; omega), getD_lt _ _ _ (by omega), List.getElem_set]
    by_cases e : j = i
    · subst e; simp
    · rw [if_neg e, if_neg (by omega)]
  · rw [if_neg hj, if_neg hj, if_neg (by omega)]
theorem Pl.set_len (P : Pl) (i : Int) (c : Cell) : (P.set i c).cells.length = P.cells.length := by simp [Pl.set]
theorem SameSt.set {P0 P : Pl} (h : SameSt P0 P) {i : Int} {c : Cell} (h0 : 0 ≤ i) (h1 : i < (P.cells.length : Int)) (hc : c.start = (P0.at i).start) : SameSt P0 (P.set i c) :=
  ⟨h.rows, h.cols, (P.set_len i c).trans h.len, fun j => by
    rw [P.at_set i c h0 h1]
    split
    · rename_i e; rw [e]; exact hc
    · exact h.st j⟩
end Go.Proofs.Ytbkddgeocmkegaa

namespace Go.Proofs.Ytbkddgeocmkegaa
open Go.RowKit Go.Shelf
set_option linter.unusedSimpArgs false
set_option linter.unusedVariables false
set_option maxHeartbeats 2000000
attribute [local go_sem ↓] run_start run_byte run_cols
attribute [local go_sem] Oper.semAt_some

/-- All fields of a plane, in order. -/
def Pl.flds (P : Pl) : List Fld := P.starts.map fun (i : Nat) => P.fld (i : Int)
def fvals (fs : List Fld) : List (Array Value) := fs.map fun f => #[.agg #[.int .i64 f.start, .int .i64 f.len, .int .u8 f.attr]]
theorem fvals_len (fs : List Fld) : (fvals fs).length = fs.length := by simp [fvals]

structure RdA (B g b cap : Nat) (P0 : Pl) (k : Nat) (W : World) : Prop where
  c0 : W.cell? ⟨B, 0, none⟩ = some (.pointer (some ⟨g, 0, none⟩))
  pl : ∃ P, PL W g b cap P ∧ SameSt P0 P ∧ ∀ j i, k ≤ j → P0.starts[j]? = some i → (P.at (i : Int)).byte = (P0.at (i : Int)).byte

set_option maxRecDepth 100000 in
theorem All_seq {P0 : Pl} (hok : P0.ok) (B g b cap : Nat) :
    SeqL Try.prog 167 #[.pointer (some ⟨B, 0, none⟩)] (fvals P0.flds) (RdA B g b cap P0) := by
  intro l J Jx W hR hJ hJx hY h0
  have hm := Pl.N_le hok
  have hn := Pl.N_pos hok
  obtain ⟨c0, P, hP, hS, hby⟩ := hR 0 W h0
  have hSz : SizeOf P0 g b cap W := ⟨P, hP, hS.rows, hS.cols, hS.len⟩
  refine callsIn_of_wp Try.func167 rfl trivial ?_ rfl
  simp only [Try.ntmps167, List.size_toArray, List.length_cons, List.length_nil, Nat.reduceAdd, Nat.reduceSub, Array.replicate_succ, Array.replicate_zero, List.push_toArray, List.append_toArray, List.nil_append, List.cons_append]
  clear hby hS
  gi_wp2_with fail
  refine ⟨trivial, rfl, CallsIn.mono (callsIn_wide.2 (Len_of hSz)) ?_⟩
  rintro e w1 ⟨rfl, hb1⟩
  have hz1 := hb1.size
  try simp only [World.size_alloc, World.size_drew, World.size_setCell] at hz1
  obtain ⟨hc1, hf1⟩ := bcell hb1
  have hJ1 := hJ 0 _ _ h0 hb1
  clear hc1 hf1 hb1 hSz hP P c0
  gi_wp2
  gi_loopw [6] (fun x wr => ∃ i : Nat, i ≤ P0.cells.length ∧ x = .int .i64 (i : Int) ∧ J (P0.cnt i) wr) (fun x _ => P0.cells.length - (intOf x).toNat)
  case atStart => exact ⟨0, Nat.zero_le _, rfl, hJ1⟩
  case round =>
    obtain ⟨i, hi, rfl, hJi⟩ := hrel
    clear hJ1
    by_cases hlt : i < P0.cells.length
    · obtain ⟨c0, P, hP, hS, hby⟩ := hR _ _ hJi
      have hst0 := hS.st (i : Int)
      cases hst : P0.isSt i
      · have hstP : (P.at (i : Int)).start = false := hst0.trans hst
        have hcnt := Lib.hid (show P0.cnt (i + 1) = P0.cnt i by rw [Pl.cnt_succ, hst]; rfl)
        clear hst hst0 hS hby
        gi_wp2_with fail
        refine ⟨trivial, rfl, CallsIn.mono (callsIn_wide.2 (At_any hP _)) ?_⟩
        rintro e w4 ⟨rfl, hb4⟩
        have hz4 := hb4.size
        try simp only [World.size_alloc, World.size_drew, World.size_setCell] at hz4
        obtain ⟨hc4, hf4⟩ := bcell hb4
        have hJ4 := hJ _ _ _ hJi hb4
        clear hc4 hf4 hb4
        gi_wp2
        refine ⟨trivial, ?_⟩
        gi_wp2
        refine ⟨fun _ h => (by cases h), ?_⟩
        gi_wp2
        go_roundw
        case rel => exact ⟨i + 1, by omega, by go_num, by rw [hcnt.out]; exact hJ4⟩
        case measure => simp [intOf]; omega
      · have hstP : (P.at (i : Int)).start = true := hst0.trans hst
        have hat := P0.starts_at hlt hst
        have hF := Lib.hid (hS.fld (i : Int) (hby _ i (Nat.le_refl _) hat))
        have hcnt := Lib.hid (show P0.cnt (i + 1) = P0.cnt i + 1 by rw [Pl.cnt_succ, hst]; rfl)
        have hk : P0.cnt i < (fvals P0.flds).length := by
          rw [fvals_len]; unfold Pl.flds; rw [List.length_map]; exact (List.getElem?_eq_some_iff.1 hat).1
        have hYk : ∀ W1, J (P0.cnt i) W1 → YieldAt Fence.wide 0 Try.prog l #[.agg #[.int .i64 (P0.fld (i : Int)).start, .int .i64 (P0.fld (i : Int)).len, .int .u8 (P0.fld (i : Int)).attr]] W1 fun e W' => (e = .returned (.bool true) ∧ J (P0.cnt i + 1) W') ∨ (e = .returned (.bool false) ∧ Jx (P0.cnt i + 1) W') := by
          intro W1 h1
          have := hY _ W1 hk h1
          have e : (fvals P0.flds)[P0.cnt i] = #[.agg #[.int .i64 (P0.fld (i : Int)).start, .int .i64 (P0.fld (i : Int)).len, .int .u8 (P0.fld (i : Int)).attr]] := by
            have e1 : P0.starts[P0.cnt i]'(List.getElem?_eq_some_iff.1 hat).1 = i := (List.getElem?_eq_some_iff.1 hat).2
            simp only [fvals, Pl.flds, List.getElem_map, e1]
          rw [e] at this
          exact this
        clear hst hst0 hat hby
        gi_wp2_with fail
        refine ⟨trivial, rfl, CallsIn.mono (callsIn_wide.2 (At_any hP _)) ?_⟩
        rintro e w4 ⟨rfl, hb4⟩
        have hz4 := hb4.size
        try simp only [World.size_alloc, World.size_drew, World.size_setCell] at hz4
        obtain ⟨hc4, hf4⟩ := bcell hb4
        have hJ4 := hJ _ _ _ hJi hb4
        have hP4 := hP.below hb4
        clear hc4 hf4 hb4 c0
        have c0 := (hR _ _ hJ4).c0
        gi_wp2_with fail
        refine ⟨trivial, rfl, CallsIn.mono (callsIn_wide.2 (at_any hP4 (i : Int) (by omega) (by rw [hS.len]; omega))) ?_⟩
        rintro e w5 ⟨rfl, hb5⟩
        have hz5 := hb5.size
        try simp only [World.size_alloc, World.size_drew, World.size_setCell] at hz5
        obtain ⟨hc5, hf5⟩ := bcell hb5
        have hJ5 := hJ _ _ _ hJ4 hb5
        rw [hF.out]
        obtain ⟨fn, tmps, assign, body, hy, hRd⟩ := hYk _ hJ5
        clear hc5 hf5 hb5 c0 hYk hY
        gi_wp2
        refine ⟨rfl, hRd.mono ?_⟩
        rintro e W3 (⟨rfl, hJ3⟩ | ⟨rfl, hJ3⟩)
        · gi_wp2
          go_roundw
          case rel => exact ⟨i + 1, by omega, by go_num, by rw [hcnt.out]; exact hJ3⟩
          case measure => simp [intOf]; omega
        · gi_wp2
          refine bodyPost_ret (results_none rfl _ _ _) rfl ?_
          exact ⟨⟨_, rfl⟩, .inr ⟨P0.cnt i + 1, by omega, hJ3⟩⟩
    · obtain rfl : i = P0.cells.length := by omega
      gi_wp2
      go_end0
      exact ⟨⟨_, rfl⟩, .inl (by rw [fvals_len]; unfold Pl.flds; rw [List.length_map, ← Pl.cnt_n]; exact hJi)⟩
end Go.Proofs.Ytbkddgeocmkegaa

namespace Go.Proofs.Ytbkddgeocmkegaa
open Go.RowKit Go.Shelf
set_option linter.unusedSimpArgs false
set_option linter.unusedVariables false
set_option maxHeartbeats 2000000
attribute [local go_sem ↓] run_start run_byte run_cols
attribute [local go_sem] Oper.semAt_some

theorem PL.aux {B : Nat} {W W' : World} {g b cap : Nat} {P : Pl} (h : PL W g b cap P) (ha : Aux B W W') : PL W' g b cap P :=
  ⟨ha.cells h.hg, let ⟨r, h'⟩ := h.hb; ⟨r, ha.cells h'⟩, h.ne, h.ok⟩

theorem All_any (g : Nat) (w : World) :
    Calls Try.prog 116 #[.pointer (some ⟨g, 0, none⟩)] w fun e w' => e = .returned (.func (.func 167) #[] #[.pointer (some ⟨w.heap.size, 0, none⟩)]) ∧ w.alloc (.cells #[.pointer (some ⟨g, 0, none⟩)] 52) = w' := by
  go_enter Try.func116, Try.ntmps116
  go_wp2
  go_ret
  exact ⟨rfl, rfl⟩

/-- The first place at which something may be typed. -/
def Pl.homeF (f : Fld) : Bool := decide (0 < f.len) && !prot f.attr
def Pl.home (P : Pl) : Int := match P.flds.find? Pl.homeF with | some f => (f.start + 1) % (P.cells.length : Int) | none => 0


theorem Fld.cases {P : Pl} (hok : P.ok) {i : Nat} (hi : i < P.cells.length) : 0 ≤ (P.fld (i : Int)).start ∧ (P.fld (i : Int)).start < (P.cells.length : Int) := ⟨by show (0 : Int) ≤ i; omega, by show (i : Int) < _; omega⟩
theorem flds_get {P : Pl} {k : Nat} (hk : k < P.flds.length) : ∃ i : Nat, i < P.cells.length ∧ P.isSt i = true ∧ P.flds[k] = P.fld (i : Int) ∧ P.starts[k]? = some i := by
  unfold Pl.flds at hk ⊢
  rw [List.length_map] at hk
  have hm := P.starts_mem (List.getElem_mem hk)
  exact ⟨P.starts[k], hm.1, hm.2, by rw [List.getElem_map], List.getElem?_eq_getElem hk⟩
theorem fvals_get {fs : List Fld} {k : Nat} (hk : k < (fvals fs).length) : (fvals fs)[k] = #[.agg #[.int .i64 ((fs[k]'(by rw [fvals_len] at hk; exact hk))).start, .int .i64 ((fs[k]'(by rw [fvals_len] at hk; exact hk))).len, .int .u8 ((fs[k]'(by rw [fvals_len] at hk; exact hk))).attr]] := by simp [fvals]
theorem find_none {α : Type} {l : List α} {p : α → Bool} (h : ∀ (j : Nat) (hj : j < l.length), p l[j] = false) : l.find? p = none := by
  rw [List.find?_eq_none]
  intro x hx
  obtain ⟨j, hj, rfl⟩ := List.getElem_of_mem hx
  simp [h j hj]
theorem find_some {α : Type} {l : List α} {p : α → Bool} {k : Nat} (hk : k < l.length) (hp : p l[k] = true) (h : ∀ (j : Nat) (hj : j < l.length), j < k → p l[j] = false) : l.find? p = some l[k] := by
  rw [List.find?_eq_some_iff_getElem]
  exact ⟨hp, k, hk, rfl, fun j hj => by simp [h j (by omega) hj]⟩

structure HomeI (w : World) (g b cap : Nat) (P : Pl) (v : Value) (W : World) : Prop where
  pl : PL W g b cap P
  c0 : W.cell? ⟨w.heap.size, 0, none⟩ = some (.pointer (some ⟨g, 0, none⟩))
  c1 : W.cell? ⟨w.heap.size + 1, 0, none⟩ = some v
  f1 : W.frozen? ⟨w.heap.size + 1, 0, none⟩ = false
  c2 : W.cell? ⟨w.heap.size + 2, 0, none⟩ = some (.pointer (some ⟨g, 0, none⟩))
  bel : Below w.heap.size w W
  sz : w.heap.size + 3 ≤ W.heap.size
theorem HomeI.aux {w W W' : World} {g b cap : Nat} {P : Pl} {v : Value} (h : HomeI w g b cap P v W) (ha : Aux (w.heap.size + 3) W W') : HomeI w g b cap P v W' :=
  ⟨h.pl.aux ha, ha.cell h.c0, ha.cell h.c1, (ha.frozen h.c1).trans h.f1, ha.cell h.c2, ha.below h.bel (by omega) (Nat.le_refl _), Nat.le_trans h.sz ha.size⟩

theorem HomeI.store {w W : World} {g b cap : Nat} {P : Pl} {v : Value} (h : HomeI w g b cap P v W) (hg : g < w.heap.size) (hb : b < w.heap.size) (u : Value) : HomeI w g b cap P u (W.setCell ⟨w.heap.size + 1, 0, none⟩ u) :=
  have hk : Chg (· = w.heap.size + 1) W (W.setCell ⟨w.heap.size + 1, 0, none⟩ u) := Chg.setCell (S := (· = w.heap.size + 1)) (Chg.refl _ _) (.inl rfl) _
  ⟨h.pl.chg hk (by omega) (by omega), cell_keepC h.c0 hk (by show ¬ (w.heap.size = w.heap.size + 1); omega), by simp [World.cell?_setCell_same' _ _ _ (by rw [h.c1]; rfl)], by rw [World.frozen?_setCell]; exact h.f1,
   cell_keepC h.c2 hk (by show ¬ (w.heap.size + 2 = w.heap.size + 1); omega), h.bel.setCell (by simp) _, by simpa using h.sz⟩
theorem HomeI.drew {w W : World} {g b cap : Nat} {P : Pl} {v : Value} (h : HomeI w g b cap P v W) : HomeI w g b cap P v W.drew := ⟨h.pl.drew, h.c0, h.c1, h.f1, h.c2, h.bel.drew, h.sz⟩

theorem chg_set (w : World) (k o : Nat) (v : Value) : Chg (· = k) w (w.setCell ⟨k, o, none⟩ v) := Chg.setCell (S := (· = k)) (Chg.refl _ _) (.inl rfl) _

/-- A new block of three cells that a round lays for the loop's variable. -/
structure FBox (Bf : Nat) (f : Fld) (W : World) : Prop where
  c0 : W.cell? ⟨Bf, 0, none⟩ = some (.int .i64 f.start)
  c1 : W.cell? ⟨Bf, 1, none⟩ = some (.int .i64 f.len)
  c2 : W.cell? ⟨Bf, 2, none⟩ = some (.int .u8 f.attr)
theorem FBox.aux {B Bf : Nat} {f : Fld} {W W' : World} (h : FBox Bf f W) (ha : Aux B W W') : FBox Bf f W' := ⟨ha.cell h.c0, ha.cell h.c1, ha.cell h.c2⟩
theorem keepsFrom_of_below {B : Nat} {W W' : World} (h : Below W.heap.size W W') : KeepsFrom B W W' :=
  ⟨h.size, fun k o _ hk _ => (h.block k (Array.getElem?_eq_some_iff.1 hk).1).trans hk⟩
theorem keepsFrom_of_chg {S : Nat → Prop} {B : Nat} {W W' : World} (h : Chg S W W') (hs : ∀ k, S k → k < B ∨ ∃ c T z, W.heap[k]? = some (.cells c T z)) : KeepsFrom B W W' :=
  ⟨h.size, fun k o hB hk ho => (h.block k (Array.getElem?_eq_some_iff.1 hk).1 (fun hS => by
    rcases hs k hS with h1 | ⟨c, T, z, h1⟩
    · omega
    · rw [h1] at hk; cases hk; cases ho)).trans hk⟩

set_option maxRecDepth 100000 in
theorem Home_any {w : World} {g b cap : Nat} {P : Pl} (h : PL w g b cap P) :
    Calls Try.prog 107 #[.pointer (some ⟨g, 0, none⟩)] w fun e w' => e = .returned (.int .i64 P.home) ∧ Below w.heap.size w w' := by
  refine (callsIn_wide (n := 0)).1 ?_
  refine callsIn_of_wp_marks Try.func107 rfl trivial ?_ rfl
  simp only [Try.ntmps107, List.size_toArray, List.length_cons, List.length_nil, Nat.reduceAdd, Nat.reduceSub, Array.replicate_succ, Array.replicate_zero, List.push_toArray, List.append_toArray, List.nil_append, List.cons_append]
  gi_wp2_with fail
  refine ⟨trivial, rfl, CallsIn.mono (callsIn_wide.2 (All_any _ _)) ?_⟩
  rintro e w1 ⟨rfl, rfl⟩
  gi_wp2
  obtain ⟨W0, hW0⟩ : ∃ W0, (((w.alloc (Obj.cells #[Value.pointer (some { block := g, off := 0 })] 52)).alloc (Obj.cells #[Value.int IntKind.i64 0] 3)).alloc (Obj.cells #[Value.pointer (some { block := g, off := 0 })] 52)) = W0 := ⟨_, rfl⟩
  have gl := h.gl
  have hB0 : Below w.heap.size w W0 := by rw [← hW0]; with_reducible (repeat (first | exact Below.refl _ _ | assumption | (refine Below.setCell ?_ (by first | omega | (simp; done) | (simp; omega)) _) | (refine Below.alloc ?_ (by first | omega | (simp; done) | (simp; omega)) _) | (refine below_drewN ?_ _) | (refine Below.drew ?_) | (refine Below.trans ?_ (Below.mono hb (by first | omega | (simp; done) | (simp; omega)))) | (refine Below.trans ?_ (Below.mono hb1 (by first | omega | (simp; done) | (simp; omega)))) | (refine Below.trans ?_ (Below.mono hb2 (by first | omega | (simp; done) | (simp; omega)))) | (refine Below.trans ?_ (Below.mono hb3 (by first | omega | (simp; done) | (simp; omega)))) | (refine Below.trans ?_ (Below.mono hb4 (by first | omega | (simp; done) | (simp; omega)))) | (refine Below.trans ?_ (Below.mono hb5 (by first | omega | (simp; done) | (simp; omega)))) | (refine Below.trans ?_ (Below.mono hb6 (by first | omega | (simp; done) | (simp; omega)))) | (refine Below.trans ?_ (Below.mono hb7 (by first | omega | (simp; done) | (simp; omega)))) | (refine Below.trans ?_ (Below.mono hb8 (by first | omega | (simp; done) | (simp; omega)))) | (refine Below.trans ?_ (Below.mono hb9 (by first | omega | (simp; done) | (simp; omega)))) | (refine Below.trans ?_ (Below.mono hb10 (by first | omega | (simp; done) | (simp; omega)))) | (refine Below.trans ?_ (Below.mono hb11 (by first | omega | (simp; done) | (simp; omega)))) | (refine Below.trans ?_ (Below.mono hb12 (by first | omega | (simp; done) | (simp; omega))))))
  have hz0 : W0.heap.size = w.heap.size + 3 := by rw [← hW0]; simp
  have hI0 : HomeI w g b cap P (.int .i64 0) W0 := by
    refine ⟨h.below hB0, ?_, ?_, ?_, ?_, hB0, by omega⟩
    all_goals (rw [← hW0]; simp [go_sem])
  rw [hW0]
  refine wpIn_rangeL (gf := 167) (lb := #[.pointer (some ⟨w.heap.size + 1 + 1, 0, none⟩)]) rfl (enters_of Try.func167 (by kernel_rfl) rfl)
    (All_seq h.ok (w.heap.size + 2) g b cap) (fun v hv => by obtain ⟨f, _, rfl⟩ := List.mem_map.1 hv; rfl)
    (fun k W => HomeI w g b cap P (.int .i64 0) W ∧ ∀ (j : Nat) (hj : j < P.flds.length), j < k → Pl.homeF P.flds[j] = false)
    (fun c k W => c = .ret ∧ HomeI w g b cap P (.int .i64 P.home) W)
    (fun k a W => ∃ (Bf : Nat) (hk : k < P.flds.length), FBox Bf P.flds[k] W ∧ HomeI w g b cap P (.int .i64 0) W ∧ (∀ (j : Nat) (hj : j < P.flds.length), j < k → Pl.homeF P.flds[j] = false) ∧
      a = ⟨#[Value.pointer (some { block := g, off := 0 }), Value.pointer (some { block := w.heap.size, off := 0 }),
          Value.pointer (some { block := w.heap.size + 1, off := 0 }), .pointer (some ⟨Bf, 0, none⟩),
          Value.pointer (some { block := g, off := 0 }),
          Value.func (Fn.func 167) #[] #[Value.pointer (some { block := w.heap.size + 1 + 1, off := 0 })], .agg #[.int .i64 ((P.flds[k])).start, .int .i64 ((P.flds[k])).len, .int .u8 ((P.flds[k])).attr], undef,
          undef, undef, undef, undef, undef, undef, undef, undef, undef, undef, undef, undef, undef], []⟩)
    (fun k W hi => ⟨hi.1.c2, P, hi.1.pl, SameSt.refl P, fun _ _ _ _ => rfl⟩)
    (fun k W W' hi ha => ⟨hi.1.aux (hz0 ▸ ha), hi.2⟩)
    (fun c k W W' hi ha => ⟨hi.1, hi.2.aux (hz0 ▸ ha)⟩)
    (fun k a W W' ⟨Bf, hk, hf, hi, hj, e⟩ ha => ⟨Bf, hk, hf.aux ha, hi.aux (hz0 ▸ ha), hj, e⟩)
    ⟨hI0, fun j hj hj0 => absurd hj0 (Nat.not_lt_zero _)⟩ ?assign ?body ?done ?stop
  case assign =>
    rintro l k W hk ⟨hi, hj⟩
    have hk' : k < P.flds.length := by rw [fvals_len] at hk; exact hk
    rw [fvals_get hk]
    gi_wp2
    refine ⟨⟨W.heap.size, hk', ⟨?_, ?_, ?_⟩, hi.aux (Aux.of_below (by with_reducible (repeat (first | exact Below.refl _ _ | assumption | (refine Below.setCell ?_ (by first | omega | (simp; done) | (simp; omega)) _) | (refine Below.alloc ?_ (by first | omega | (simp; done) | (simp; omega)) _) | (refine below_drewN ?_ _) | (refine Below.drew ?_) | (refine Below.trans ?_ (Below.mono hb (by first | omega | (simp; done) | (simp; omega)))) | (refine Below.trans ?_ (Below.mono hb1 (by first | omega | (simp; done) | (simp; omega)))) | (refine Below.trans ?_ (Below.mono hb2 (by first | omega | (simp; done) | (simp; omega)))) | (refine Below.trans ?_ (Below.mono hb3 (by first | omega | (simp; done) | (simp; omega)))) | (refine Below.trans ?_ (Below.mono hb4 (by first | omega | (simp; done) | (simp; omega)))) | (refine Below.trans ?_ (Below.mono hb5 (by first | omega | (simp; done) | (simp; omega)))) | (refine Below.trans ?_ (Below.mono hb6 (by first | omega | (simp; done) | (simp; omega)))) | (refine Below.trans ?_ (Below.mono hb7 (by first | omega | (simp; done) | (simp; omega)))) | (refine Below.trans ?_ (Below.mono hb8 (by first | omega | (simp; done) | (simp; omega)))) | (refine Below.trans ?_ (Below.mono hb9 (by first | omega | (simp; done) | (simp; omega)))) | (refine Below.trans ?_ (Below.mono hb10 (by first | omega | (simp; done) | (simp; omega)))) | (refine Below.trans ?_ (Below.mono hb11 (by first | omega | (simp; done) | (simp; omega)))) | (refine Below.trans ?_ (Below.mono hb12 (by first | omega | (simp; done) | (simp; omega)))))))), hj, rfl⟩, keepsFrom_of_below (by with_reducible (repeat (first | exact Below.refl _ _ | assumption | (refine Below.setCell ?_ (by first | omega | (simp; done) | (simp; omega)) _) | (refine Below.alloc ?_ (by first | omega | (simp; done) | (simp; omega)) _) | (refine below_drewN ?_ _) | (refine Below.drew ?_) | (refine Below.trans ?_ (Below.mono hb (by first | omega | (simp; done) | (simp; omega)))) | (refine Below.trans ?_ (Below.mono hb1 (by first | omega | (simp; done) | (simp; omega)))) | (refine Below.trans ?_ (Below.mono hb2 (by first | omega | (simp; done) | (simp; omega)))) | (refine Below.trans ?_ (Below.mono hb3 (by first | omega | (simp; done) | (simp; omega)))) | (refine Below.trans ?_ (Below.mono hb4 (by first | omega | (simp; done) | (simp; omega)))) | (refine Below.trans ?_ (Below.mono hb5 (by first | omega | (simp; done) | (simp; omega)))) | (refine Below.trans ?_ (Below.mono hb6 (by first | omega | (simp; done) | (simp; omega)))) | (refine Below.trans ?_ (Below.mono hb7 (by first | omega | (simp; done) | (simp; omega)))) | (refine Below.trans ?_ (Below.mono hb8 (by first | omega | (simp; done) | (simp; omega)))) | (refine Below.trans ?_ (Below.mono hb9 (by first | omega | (simp; done) | (simp; omega)))) | (refine Below.trans ?_ (Below.mono hb10 (by first | omega | (simp; done) | (simp; omega)))) | (refine Below.trans ?_ (Below.mono hb11 (by first | omega | (simp; done) | (simp; omega)))) | (refine Below.trans ?_ (Below.mono hb12 (by first | omega | (simp; done) | (simp; omega)))))))⟩
    all_goals simp [go_sem]
  case body =>
    rintro l k a1 W hk ⟨Bf, hk', hf, hi, hj, rfl⟩
    obtain ⟨c0, c1, c2⟩ := hf
    have p0 := hi.c0
    have r0 := hi.c1
    have r1 := hi.f1
    have hsz := hi.sz
    obtain ⟨i, hin, his, hie, _⟩ := flds_get hk'
    have ha : 0 ≤ P.flds[k].attr ∧ P.flds[k].attr ≤ 255 := by rw [hie]; exact low6_ok _
    clear hie hin his
    have HJ := Lib.hid hj
    clear hj
    generalize hfk : P.flds[k] = f at *
    have HK := Lib.hid hfk
    clear hfk
    by_cases hl : 0 < f.len
    · cases hp : prot f.attr
      · have hF : Pl.homeF f = true := by unfold Pl.homeF; rw [hp]; simp [hl]
        have hH := Lib.hid (show P.home = (f.start + 1) % (P.cells.length : Int) by
          unfold Pl.home
          rw [find_some hk' (by rw [HK.out]; exact hF) HJ.out, HK.out])
        clear hF
        gi_wp2_with fail
        refine ⟨trivial, rfl, CallsIn.mono (CallsIn.inRound _ (callsIn_wide.2 (Protected_any _ _ ha))) ?_⟩
        rintro e w1 ⟨rfl, hb1⟩
        have hz1 := hb1.size
        try simp only [World.size_alloc, World.size_drew, World.size_setCell] at hz1
        obtain ⟨hc1, hf1⟩ := bcell hb1
        have hi1 := hi.aux (Aux.of_below hb1)
        have p1 := hi1.c0
        have r2 := hi1.c1
        have r3 := hi1.f1
        have hsz1 := hi1.sz
        have d0 := (FBox.aux (B := 0) ⟨c0, c1, c2⟩ (Aux.of_below hb1)).c0
        clear hc1 hf1 c0 c1 c2 p0 r0 r1
        gi_wp2_with fail
        gi_region_with (first
          | (refine ⟨trivial, rfl, ?_⟩; gi_at_call 101; refine CallsIn.mono (CallsIn.inRound _ (callsIn_wide.2 (Size_any (hi1.pl.below (by with_reducible (repeat (first | exact Below.refl _ _ | assumption | (refine Below.setCell ?_ (by first | omega | (simp; done) | (simp; omega)) _) | (refine Below.alloc ?_ (by first | omega | (simp; done) | (simp; omega)) _) | (refine below_drewN ?_ _) | (refine Below.drew ?_) | (refine Below.trans ?_ (Below.mono hb (by first | omega | (simp; done) | (simp; omega)))) | (refine Below.trans ?_ (Below.mono hb1 (by first | omega | (simp; done) | (simp; omega)))) | (refine Below.trans ?_ (Below.mono hb2 (by first | omega | (simp; done) | (simp; omega)))) | (refine Below.trans ?_ (Below.mono hb3 (by first | omega | (simp; done) | (simp; omega)))) | (refine Below.trans ?_ (Below.mono hb4 (by first | omega | (simp; done) | (simp; omega)))) | (refine Below.trans ?_ (Below.mono hb5 (by first | omega | (simp; done) | (simp; omega)))) | (refine Below.trans ?_ (Below.mono hb6 (by first | omega | (simp; done) | (simp; omega)))) | (refine Below.trans ?_ (Below.mono hb7 (by first | omega | (simp; done) | (simp; omega)))) | (refine Below.trans ?_ (Below.mono hb8 (by first | omega | (simp; done) | (simp; omega)))) | (refine Below.trans ?_ (Below.mono hb9 (by first | omega | (simp; done) | (simp; omega)))) | (refine Below.trans ?_ (Below.mono hb10 (by first | omega | (simp; done) | (simp; omega)))) | (refine Below.trans ?_ (Below.mono hb11 (by first | omega | (simp; done) | (simp; omega)))) | (refine Below.trans ?_ (Below.mono hb12 (by first | omega | (simp; done) | (simp; omega))))))))))) ?_; rintro e w2 ⟨rfl, hb2⟩; have hB2 : Below w1.heap.size w1 w2 := (by with_reducible (repeat (first | exact Below.refl _ _ | assumption | (refine Below.setCell ?_ (by first | omega | (simp; done) | (simp; omega)) _) | (refine Below.alloc ?_ (by first | omega | (simp; done) | (simp; omega)) _) | (refine below_drewN ?_ _) | (refine Below.drew ?_) | (refine Below.trans ?_ (Below.mono hb (by first | omega | (simp; done) | (simp; omega)))) | (refine Below.trans ?_ (Below.mono hb1 (by first | omega | (simp; done) | (simp; omega)))) | (refine Below.trans ?_ (Below.mono hb2 (by first | omega | (simp; done) | (simp; omega)))) | (refine Below.trans ?_ (Below.mono hb3 (by first | omega | (simp; done) | (simp; omega)))) | (refine Below.trans ?_ (Below.mono hb4 (by first | omega | (simp; done) | (simp; omega)))) | (refine Below.trans ?_ (Below.mono hb5 (by first | omega | (simp; done) | (simp; omega)))) | (refine Below.trans ?_ (Below.mono hb6 (by first | omega | (simp; done) | (simp; omega)))) | (refine Below.trans ?_ (Below.mono hb7 (by first | omega | (simp; done) | (simp; omega)))) | (refine Below.trans ?_ (Below.mono hb8 (by first | omega | (simp; done) | (simp; omega)))) | (refine Below.trans ?_ (Below.mono hb9 (by first | omega | (simp; done) | (simp; omega)))) | (refine Below.trans ?_ (Below.mono hb10 (by first | omega | (simp; done) | (simp; omega)))) | (refine Below.trans ?_ (Below.mono hb11 (by first | omega | (simp; done) | (simp; omega)))) | (refine Below.trans ?_ (Below.mono hb12 (by first | omega | (simp; done) | (simp; omega))))))); have hz2 := hB2.size; have d2 := cell_keep d0 hB2)
          | (refine ⟨trivial, rfl, ?_⟩; gi_at_call 161; refine CallsIn.mono (CallsIn.inRound _ (callsIn_wide.2 (Move_P h.ok _ _ _))) ?_; rintro e w3 ⟨rfl, hb3⟩; have hB3 : Below w1.heap.size w1 w3 := (by with_reducible (repeat (first | exact Below.refl _ _ | assumption | (refine Below.setCell ?_ (by first | omega | (simp; done) | (simp; omega)) _) | (refine Below.alloc ?_ (by first | omega | (simp; done) | (simp; omega)) _) | (refine below_drewN ?_ _) | (refine Below.drew ?_) | (refine Below.trans ?_ (Below.mono hb (by first | omega | (simp; done) | (simp; omega)))) | (refine Below.trans ?_ (Below.mono hb1 (by first | omega | (simp; done) | (simp; omega)))) | (refine Below.trans ?_ (Below.mono hb2 (by first | omega | (simp; done) | (simp; omega)))) | (refine Below.trans ?_ (Below.mono hb3 (by first | omega | (simp; done) | (simp; omega)))) | (refine Below.trans ?_ (Below.mono hb4 (by first | omega | (simp; done) | (simp; omega)))) | (refine Below.trans ?_ (Below.mono hb5 (by first | omega | (simp; done) | (simp; omega)))) | (refine Below.trans ?_ (Below.mono hb6 (by first | omega | (simp; done) | (simp; omega)))) | (refine Below.trans ?_ (Below.mono hb7 (by first | omega | (simp; done) | (simp; omega)))) | (refine Below.trans ?_ (Below.mono hb8 (by first | omega | (simp; done) | (simp; omega)))) | (refine Below.trans ?_ (Below.mono hb9 (by first | omega | (simp; done) | (simp; omega)))) | (refine Below.trans ?_ (Below.mono hb10 (by first | omega | (simp; done) | (simp; omega)))) | (refine Below.trans ?_ (Below.mono hb11 (by first | omega | (simp; done) | (simp; omega)))) | (refine Below.trans ?_ (Below.mono hb12 (by first | omega | (simp; done) | (simp; omega))))))); have hi3 := hi1.aux (Aux.of_below hB3); have r4 := hi3.c1; have r5 := hi3.f1))
        all_goals
          gi_wp2
          exact ⟨(keepsFrom_of_below (hb1.trans (hB3.mono hb1.size))).trans (keepsFrom_of_chg (chg_set _ _ _ _) (fun k e => .inl (by subst e; omega))), rfl, by rw [hH.out]; exact hi3.store h.gl h.bl _⟩
      · have hF : Pl.homeF f = false := by unfold Pl.homeF; rw [hp]; simp
        have HF := Lib.hid hF
        clear hF
        gi_wp2_with fail
        refine ⟨trivial, rfl, CallsIn.mono (CallsIn.inRound _ (callsIn_wide.2 (Protected_any _ _ ha))) ?_⟩
        rintro e w1 ⟨rfl, hb1⟩
        have hz1 := hb1.size
        try simp only [World.size_alloc, World.size_drew, World.size_setCell] at hz1
        obtain ⟨hc1, hf1⟩ := bcell hb1
        gi_wp2
        exact ⟨keepsFrom_of_below hb1, hi.aux (Aux.of_below hb1), fun j hj1 hj2 => by
          rcases Nat.lt_succ_iff_lt_or_eq.1 hj2 with h3 | rfl
          · exact HJ.out j hj1 h3
          · rw [HK.out]; exact HF.out⟩
    · have HF := Lib.hid (show Pl.homeF f = false by unfold Pl.homeF; simp; intro h; exact absurd h hl)
      gi_wp2
      refine ⟨trivial, ?_⟩
      gi_wp2
      exact ⟨keepsFrom_of_below (Below.refl _ _), hi, fun j hj1 hj2 => by
          rcases Nat.lt_succ_iff_lt_or_eq.1 hj2 with h3 | rfl
          · exact HJ.out j hj1 h3
          · rw [HK.out]; exact HF.out⟩
  case done =>
    rintro D W hD ⟨hi, hj⟩ hK
    have hH := Lib.hid (show P.home = 0 by unfold Pl.home; rw [find_none (fun j hj1 => hj j hj1 (by rw [fvals_len]; exact hj1))])
    have r0 := hi.c1
    have r1 := hi.f1
    have hsz := hi.sz
    gi_wp2
    have hK' := (KeepsOthers.setCell W ⟨w.heap.size + 1, 0, none⟩ (.int .i64 0)).same D _ hK rfl
    refine ⟨by simp, .inl ⟨_, _, rfl, run_takeDeferred hK', ?_⟩⟩
    have hi2 := (hi.store h.gl h.bl (.int .i64 0)).aux (Aux.put (.deferred none) (by omega) hK' rfl)
    have r2 := hi2.c1
    refine ⟨.int .i64 0, ?_, by rw [hH.out], hi2.bel⟩
    simp [results, Try.f107, go_sem, r2]
  case stop =>
    rintro D c k W hD hk ⟨rfl, hi⟩ hK
    gi_wp2
    refine ⟨by simp, .inl ⟨_, _, rfl, run_takeDeferred hK, ?_⟩⟩
    have hi2 := hi.aux (Aux.put (.deferred none) (by omega) hK rfl)
    have r2 := hi2.c1
    refine ⟨.int .i64 P.home, ?_, rfl, hi2.bel⟩
    simp [results, Try.f107, go_sem, r2]
end Go.Proofs.Ytbkddgeocmkegaa

namespace Go.Proofs.Ytbkddgeocmkegaa
open Go.RowKit Go.Shelf
set_option linter.unusedSimpArgs false
set_option linter.unusedVariables false
set_option maxHeartbeats 2000000
attribute [local go_sem ↓] run_start run_byte run_cols

theorem caretHome_any {w : World} {g b cap : Nat} {P : Pl} (h : PL w g b cap P) (i0 : 0 ≤ P.home) (i1 : P.home < (P.cells.length : Int)) :
    Calls Try.prog 46 #[.pointer (some ⟨g, 0, none⟩)] w fun e w' => e = .returned (.int .i64 P.home) ∧ PL w' g b cap (P.point P.home) ∧ Chg (· = g) w w' := by
  go_enter Try.func46, Try.ntmps46
  go_wp2_with fail
  refine (Home_any h).mono ?_
  rintro e w1 ⟨rfl, hb1⟩
  have hz1 := hb1.size
  try simp only [World.size_alloc, World.size_drew, World.size_setCell] at hz1
  obtain ⟨hc1, hf1⟩ := bcell hb1
  go_wp2_with fail
  refine (to_in (h.below hb1) _ i0 i1).mono ?_
  rintro e w3 ⟨rfl, hP, hk⟩
  go_wp2
  go_ret
  exact ⟨rfl, hP, chg_bel hb1 hk⟩


def Pl.new (r c : Int) : Pl := ⟨r, c, List.replicate (r * c).toNat Cell.zero, 0⟩
theorem Pl.new_ok {r c : Int} (h1 : 1 ≤ r) (h2 : r ≤ 43) (h3 : 1 ≤ c) (h4 : c ≤ 132) (h5 : r * c ≤ 4096) : (Pl.new r c).ok := by
  have h0 : 0 < r * c := Int.mul_pos (by omega) (by omega)
  exact ⟨h1, h2, h3, h4, h5, by simp [Pl.new]; omega, by simp [Pl.new], by simpa [Pl.new] using h0, fun d hd => by
    have := List.eq_of_mem_replicate hd; subst this; exact Cell.zero_ok⟩

theorem made_flat (n : Nat) : madeCells (Value.agg #[.int .u8 0, .bool false, .bool false, .int .u8 0, .int .u8 0]).cells (n * 5) = (flat (List.replicate n Cell.zero)).toArray := by
  apply Array.ext'
  simp only [madeCells]
  apply List.ext_getElem
  · simp [flat_len]; omega
  · intro i h1 h2
    have hi : i < n * 5 := by simpa using h1
    have e : i = i / 5 * 5 + i % 5 := by omega
    have hk := flat_get (List.replicate n Cell.zero) (i / 5) (by simp; omega) (i % 5) (by omega)
    rw [← e] at hk
    have h2' : i < (flat (List.replicate n Cell.zero)).length := by simpa using h2
    rw [List.getElem?_eq_getElem h2'] at hk
    simp only [List.getElem_replicate] at hk
    simp only [Array.getElem_toList, Array.getElem_map, Array.getElem_range]
    have hm : i % 5 < 5 := by omega
    revert hk hm
    generalize (flat (List.replicate n Cell.zero))[i] = v
    generalize hj : i % 5 = j
    intro hk hm
    have hsz : (Value.agg #[.int .u8 0, .bool false, .bool false, .int .u8 0, .int .u8 0]).cells.size = 5 := rfl
    rw [hsz, hj]
    match j, hm with
    | 0, _ => simpa [Cell.vals, Cell.zero, Value.cells] using hk.symm
    | 1, _ => simpa [Cell.vals, Cell.zero, Value.cells] using hk.symm
    | 2, _ => simpa [Cell.vals, Cell.zero, Value.cells] using hk.symm
    | 3, _ => simpa [Cell.vals, Cell.zero, Value.cells] using hk.symm
    | 4, _ => simpa [Cell.vals, Cell.zero, Value.cells] using hk.symm

def NewPost (r c : Int) (w : World) (e : Ending) (w' : World) : Prop :=
  ∃ g b cap : Nat, e = .returned (.tuple #[.pointer (some ⟨g, 0, none⟩), .int .i64 0]) ∧ PL w' g b cap (Pl.new r c) ∧ w.heap.size ≤ g ∧ w.heap.size ≤ b ∧ Below w.heap.size w w'

theorem info_cell : (Try.prog.info? 96).map (fun i => (i.zero, i.size, i.bytes)) = some (some (.agg #[.int .u8 0, .bool false, .bool false, .int .u8 0, .int .u8 0]), 5, 5) := by kernel_rfl

theorem New_in {w : World} (r c : Int) (h1 : 1 ≤ r) (h2 : r ≤ 43) (h3 : 1 ≤ c) (h4 : c ≤ 132) (h5 : r * c ≤ 4096) :
    Calls Try.prog 91 #[.agg #[.int .i64 r, .int .i64 c]] w (NewPost r c w) := by
  have h0 : 0 < r * c := Int.mul_pos (by omega) (by omega)
  obtain ⟨i0, hi, hz0, hz1, hz2⟩ := info_parts info_cell
  have hmk : ∀ W : World, (Instr.makeSlice 75 (.int .i64 (r * c)) (.int .i64 (r * c))).run Try.prog W = .ok (.slice (some ⟨W.heap.size, 0, none⟩) (r * c).toNat (r * c).toNat) (W.alloc (.cells (flat (List.replicate (r * c).toNat Cell.zero)).toArray 96)) := by
    intro W
    have := run_make (P := Try.prog) W 75 96 i0 _ Try.underlying75 hi hz0 .i64 .i64 (r * c) (r * c) (by omega) (Int.le_refl _) (by rw [hz2]; omega) (by omega)
    rw [this, hz1, made_flat]
  clear hi hz0 hz1 hz2
  go_enter Try.func91, Try.ntmps91
  go_wp2_with fail
  refine (Cells_in _ _ _ h1 h2 h3 h4 h5).mono ?_
  rintro e w1 ⟨rfl, hb1⟩
  have hz1 := hb1.size
  try simp only [World.size_alloc, World.size_drew, World.size_setCell] at hz1
  obtain ⟨hc1, hf1⟩ := bcell hb1
  have s0 : w1.cell? ⟨w.heap.size, 0, none⟩ = some (.int .i64 r) := by rw [hc1 _ _ (by simp)]; simp [go_sem]
  have s1 : w1.cell? ⟨w.heap.size, 1, none⟩ = some (.int .i64 c) := by rw [hc1 _ _ (by simp)]; simp [go_sem]
  clear hc1 hf1
  have hlt : w.heap.size < w1.heap.size := by omega
  go_wp2
  go_region
  go_wp2
  go_ret2
  refine ⟨w1.heap.size + 1, w1.heap.size, (r * c).toNat, rfl, ⟨?_, ⟨[], ?_⟩, by omega, Pl.new_ok h1 h2 h3 h4 h5⟩, by omega, by omega, by with_reducible (repeat (first | exact Below.refl _ _ | assumption | (refine Below.setCell ?_ (by first | omega | (simp; done) | (simp; omega)) _) | (refine Below.alloc ?_ (by first | omega | (simp; done) | (simp; omega)) _) | (refine below_drewN ?_ _) | (refine Below.drew ?_) | (refine Below.trans ?_ (Below.mono hb (by first | omega | (simp; done) | (simp; omega)))) | (refine Below.trans ?_ (Below.mono hb1 (by first | omega | (simp; done) | (simp; omega)))) | (refine Below.trans ?_ (Below.mono hb2 (by first | omega | (simp; done) | (simp; omega)))) | (refine Below.trans ?_ (Below.mono hb3 (by first | omega | (simp; done) | (simp; omega)))) | (refine Below.trans ?_ (Below.mono hb4 (by first | omega | (simp; done) | (simp; omega)))) | (refine Below.trans ?_ (Below.mono hb5 (by first | omega | (simp; done) | (simp; omega)))) | (refine Below.trans ?_ (Below.mono hb6 (by first | omega | (simp; done) | (simp; omega)))) | (refine Below.trans ?_ (Below.mono hb7 (by first | omega | (simp; done) | (simp; omega)))) | (refine Below.trans ?_ (Below.mono hb8 (by first | omega | (simp; done) | (simp; omega)))) | (refine Below.trans ?_ (Below.mono hb9 (by first | omega | (simp; done) | (simp; omega)))) | (refine Below.trans ?_ (Below.mono hb10 (by first | omega | (simp; done) | (simp; omega)))) | (refine Below.trans ?_ (Below.mono hb11 (by first | omega | (simp; done) | (simp; omega)))) | (refine Below.trans ?_ (Below.mono hb12 (by first | omega | (simp; done) | (simp; omega))))))⟩
  · have := World.alloc_heap_new (w1.alloc (.cells (flat (List.replicate (r * c).toNat Cell.zero)).toArray 96)) (.cells #[.int .i64 r, .int .i64 c, .slice (some ⟨w1.heap.size, 0, none⟩) (r * c).toNat (r * c).toNat, .int .i64 0] 132)
    rw [World.size_alloc] at this
    rw [show (Pl.new r c).cells.length = (r * c).toNat by simp [Pl.new]]
    exact this
  · have := (Below.heap_alloc (w1.alloc (.cells (flat (List.replicate (r * c).toNat Cell.zero)).toArray 96)) (.cells #[.int .i64 r, .int .i64 c, .slice (some ⟨w1.heap.size, 0, none⟩) (r * c).toNat (r * c).toNat, .int .i64 0] 132) w1.heap.size (by simp)).trans (World.alloc_heap_new w1 _)
    rw [List.append_nil]
    exact this
end Go.Proofs.Ytbkddgeocmkegaa

namespace Go.Proofs.Ytbkddgeocmkegaa
open Go.RowKit Go.Shelf
set_option linter.unusedSimpArgs false
set_option linter.unusedVariables false
set_option maxHeartbeats 2000000
attribute [local go_sem ↓] run_start run_byte run_cols

def RowPost (cs : List Cell) (w : World) (e : Ending) (w' : World) : Prop :=
  ∃ (b cap : Nat) (rest : List Value), e = .returned (.slice (some ⟨b, 0, none⟩) cs.length cap) ∧ w'.heap[b]? = some (.cells (flat cs ++ rest).toArray 96 (0, 0)) ∧ w.heap.size ≤ b ∧ Below w.heap.size w w'


theorem rest_of {cur : Array Value} {xs : List Value} {n : Nat} (h : cur.toList.take n = xs) : cur = (xs ++ cur.toList.drop n).toArray := by
  apply Array.ext'
  rw [← h]
  simp

theorem owns_empty (w : World) (T : TypeId) (k : Nat) : (w.alloc (.cells #[] T)).ownsRow w.heap.size T k (.slice (some ⟨w.heap.size, 0, none⟩) 0 0) 0 [] :=
  ⟨by simp, .inr ⟨w.heap.size, 0, #[], rfl, Nat.le_refl _, World.alloc_heap_new w _, Nat.le_refl _, by simp, by simp, by simp⟩⟩
theorem PL.row {w : World} {g b cap : Nat} {P : Pl} (h : PL w g b cap P) (j : Nat) (u : Value) (hu : (flat P.cells)[j]? = some u) : w.cell? ⟨b, j, none⟩ = some u := by
  obtain ⟨r, hb⟩ := h.hb
  have hj : j < (flat P.cells).length := (List.getElem?_eq_some_iff.1 hu).1
  simp only [World.cell?, hb, Option.isSome_none, Bool.false_eq_true, if_false, List.getElem?_toArray]
  rw [List.getElem?_append_left hj]
  exact hu
theorem flat_one (cs : List Cell) : ∀ u ∈ flat cs, u.oneCell' = true := by
  intro u hu
  unfold flat at hu
  rw [List.mem_flatMap] at hu
  obtain ⟨c, _, hc⟩ := hu
  simp [Cell.vals] at hc
  rcases hc with rfl | rfl | rfl | rfl | rfl <;> rfl

set_option maxRecDepth 10000 in
theorem CloneS_any {w : World} {g b cap : Nat} {P : Pl} (h : PL w g b cap P) :
    Calls Try.prog 100 #[.slice (some ⟨b, 0, none⟩) P.cells.length cap] w (RowPost P.cells w) := by
  have hn := Pl.N_pos h.ok
  have hm := Pl.N_le h.ok
  have hbl := h.bl
  have hnil := fun (W : World) (a : Addr) (n c : Nat) => Lib.run_eql_slice_nil (P := Try.prog) W _ _ (some a) n c 0 0 Try.underlying75
  have hnews : ∀ (j : Nat) (u : Value), (flat P.cells)[j]? = some u → (w.alloc (.cells #[] 96)).cell? ((⟨b, 0, none⟩ : Addr).add j) = some u := fun j u hu => by
    have := (h.below ((Below.refl _ _).alloc (Nat.le_refl _) (.cells #[] 96))).row j u hu
    simp only [Addr.add]
    split
    · subst_vars; exact this
    · simpa using this
  have HN := Lib.hid hnews
  clear hnews
  have HI := Lib.hid info_cell
  go_enter Try.func100, Try.ntmps100
  go_wp2_with (at_builtin; obtain ⟨i0, hi, hz0, hz1, hz2⟩ := info_parts HI.out; refine wpList_append_lies _ rfl _ _ 75 rfl w.heap.size 96 i0 _ 5 5 Try.underlying75 hi hz0 hz1 hz2 rfl (by decide) _ 0 [] rfl (owns_empty w 96 5) ⟨b, 0, none⟩ P.cells.length cap (flat P.cells) rfl (by rw [flat_len]; omega) HN.out (flat_one _) hn (by unfold maxLen; omega) (by omega) (by simp) (w.heap.size + 1) (by simp) ?_; clear hi hz0 hz1 hz2; intro g2 cap2 w2 hown2 hgr hat hlt)
  go_ret
  obtain ⟨_, hv | ⟨g3, c3, cur, hv, hge, hh, _, _, _, htk⟩⟩ := hown2
  · cases hv.1
  · cases hv
    have hb2 : Below w.heap.size w w2 := ((Below.refl w.heap.size w).alloc (Nat.le_refl _) (.cells #[] 96)).grown hgr (by simp) (fun k e => by cases e; exact Nat.le_refl _)
    refine ⟨g2, _, cur.toList.drop ((0 + P.cells.length) * 5), rfl, ?_, hge, hb2⟩
    rw [hh]
    have := rest_of htk
    rw [List.nil_append] at this
    rw [← this]

def ClonePost (P : Pl) (w : World) (e : Ending) (w' : World) : Prop :=
  ∃ g b cap : Nat, e = .returned (.pointer (some ⟨g, 0, none⟩)) ∧ PL w' g b cap P ∧ w.heap.size ≤ g ∧ w.heap.size ≤ b ∧ Below w.heap.size w w'

theorem keep4 {W w2 : World} {a b c d : Addr} {v u x y : Value} (h : W.cell? a = some v ∧ W.cell? b = some u ∧ W.cell? c = some x ∧ W.cell? d = some y) (hb : Below W.heap.size W w2) : w2.cell? a = some v ∧ w2.cell? b = some u ∧ w2.cell? c = some x ∧ w2.cell? d = some y :=
  ⟨cell_keep h.1 hb, cell_keep h.2.1 hb, cell_keep h.2.2.1 hb, cell_keep h.2.2.2 hb⟩

theorem Clone_any {w : World} {g b cap : Nat} {P : Pl} (h : PL w g b cap P) :
    Calls Try.prog 41 #[.pointer (some ⟨g, 0, none⟩)] w (ClonePost P w) := by
  have f0 := h.f0
  have f1 := h.f1
  have f2 := h.f2
  have f3 := h.f3
  have gl := h.gl
  go_enter Try.func41, Try.ntmps41
  go_wp2
  go_region_held3 (fun w' => w'.cell? ⟨g, 0, none⟩ = some (.int .i64 P.rows) ∧ w'.cell? ⟨g, 1, none⟩ = some (.int .i64 P.cols) ∧ w'.cell? ⟨g, 2, none⟩ = some (.slice (some ⟨b, 0, none⟩) P.cells.length cap) ∧ w'.cell? ⟨g, 3, none⟩ = some (.int .i64 P.cursor))
    (first | exact keep4 (by assumption) hb1 | go_keep)
    (first | (go_at_call 100; refine (CloneS_any h.drew).mono ?_; rintro e w1 ⟨b1, cap1, rest1, rfl, hh1, hge1, hb1⟩))
  go_wp2
  go_ret
  have hlt := lt_of_block hh1
  have hB : Below w.heap.size w (w1.alloc (.cells #[.int .i64 P.rows, .int .i64 P.cols, .slice (some ⟨b1, 0, none⟩) P.cells.length cap1, .int .i64 P.cursor] 132)) :=
    ((Below.refl w.heap.size w).drew.trans hb1).alloc hb1.size _
  exact ⟨w1.heap.size, b1, cap1, rfl, ⟨World.alloc_heap_new w1 _, ⟨rest1, (Below.heap_alloc w1 _ b1 hlt).trans hh1⟩, by omega, h.ok⟩, hb1.size, hge1, hB⟩
end Go.Proofs.Ytbkddgeocmkegaa

/-! '==' of cells and sizes. -/
namespace Go.Proofs.Ytbkddgeocmkegaa
open Go.RowKit
set_option linter.unusedSimpArgs false
set_option linter.unusedVariables false
section
variable {Q : Program} {d : Nat} {xs ys : Array Value} {f : Field} {fs : List Field} {a b : Value} {r s : Bool} {w : World}
theorem eqOne (hn : (f.name == "_") = false) (ha : (part f.type xs f.offset).run Q w = .ok a w) (hb : (part f.type ys f.offset).run Q w = .ok b w) (he : (Op.equalIn d f.type a b).run Q w = .ok r w) : (Op.eqFields d xs ys [f]).run Q w = .ok r w := by
  have hn' : f.name ≠ "_" := by simpa using hn
  simp only [Op.eqFields, if_pos hn', Sem.run_bind, ha, hb, he, Result.andThen_ok]
  cases r <;> simp
theorem eqMore (hn : (f.name == "_") = false) (ha : (part f.type xs f.offset).run Q w = .ok a w) (hb : (part f.type ys f.offset).run Q w = .ok b w) (he : (Op.equalIn d f.type a b).run Q w = .ok r w) (hr : (Op.eqFields d xs ys fs).run Q w = .ok s w) : (Op.eqFields d xs ys (f :: fs)).run Q w = .ok (r && s) w := by
  have hn' : f.name ≠ "_" := by simpa using hn
  rw [Op.eqFields]
  simp only [if_pos hn', Sem.run_bind, ha, hb, he, Result.andThen_ok]
  cases r
  · simp
  · simpa using hr
theorem eqAgg {t : TypeId} {fs : Array Field} (hu : Q.underlying t = some (.struct fs)) (hp : Q.stoodInHeld t = false) (h : (Op.eqFields d xs ys fs.toList).run Q w = .ok r w) : (Op.equalIn (d + 1) t (.agg xs) (.agg ys)).run Q w = .ok r w := by
  have hf : Q.fieldsOf t = fs := by simp [Program.fieldsOf, hu]
  rw [run_equalIn_struct (P := Q) w d t xs ys (by rw [hf]; exact hu) hp, hf]
  exact h
end

theorem eqIn_cell (d : Nat) (w : World) (x y : Cell) : (Op.equalIn (d + 2) 96 (.agg #[.int .u8 x.byte, .bool x.ge, .bool x.start, .int .u8 x.light, .int .u8 x.color]) (.agg #[.int .u8 y.byte, .bool y.ge, .bool y.start, .int .u8 y.light, .int .u8 y.color])).run Try.prog w = .ok (decide (x = y)) w := by
  have h : (Op.equalIn (d + 2) 96 (.agg #[.int .u8 x.byte, .bool x.ge, .bool x.start, .int .u8 x.light, .int .u8 x.color]) (.agg #[.int .u8 y.byte, .bool y.ge, .bool y.start, .int .u8 y.light, .int .u8 y.color])).run Try.prog w = .ok (x.byte == y.byte && (x.ge == y.ge && (x.start == y.start && (x.light == y.light && (x.color == y.color))))) w := by
    refine eqAgg Try.underlying96 (by kernel_rfl) ?_
    refine eqMore (by rfl) (by go_simp; rfl) (by go_simp; rfl) (by go_simp) ?_
    refine eqMore (by rfl) (by go_simp; rfl) (by go_simp; rfl) (by go_simp) ?_
    refine eqMore (by rfl) (by go_simp; rfl) (by go_simp; rfl) (by go_simp) ?_
    refine eqMore (by rfl) (by go_simp; rfl) (by go_simp; rfl) (by go_simp) ?_
    exact eqOne (by rfl) (by go_simp; rfl) (by go_simp; rfl) (by go_simp)
  have e : (x.byte == y.byte && (x.ge == y.ge && (x.start == y.start && (x.light == y.light && (x.color == y.color))))) = decide (x = y) := by
    clear h
    obtain ⟨a1, a2, a3, a4, a5⟩ := x
    obtain ⟨b1, b2, b3, b4, b5⟩ := y
    rw [Bool.eq_iff_iff]
    simp
  rw [← e]
  exact h
theorem eqIn_size (d : Nat) (w : World) (a b c e : Int) : (Op.equalIn (d + 2) 48 (.agg #[.int .i64 a, .int .i64 b]) (.agg #[.int .i64 c, .int .i64 e])).run Try.prog w = .ok (decide (a = c ∧ b = e)) w := by
  have h : (Op.equalIn (d + 2) 48 (.agg #[.int .i64 a, .int .i64 b]) (.agg #[.int .i64 c, .int .i64 e])).run Try.prog w = .ok (a == c && b == e) w := by
    refine eqAgg Try.underlying48 (by kernel_rfl) ?_
    refine eqMore (by rfl) (by go_simp; rfl) (by go_simp; rfl) (by go_simp) ?_
    exact eqOne (by rfl) (by go_simp; rfl) (by go_simp; rfl) (by go_simp)
  have e : (a == c && b == e) = decide (a = c ∧ b = e) := by
    rw [Bool.eq_iff_iff]
    simp
  rw [← e]
  exact h

theorem run_neq_cell (w : World) (x y : Cell) : (binOp .neq 96 (.agg #[.int .u8 x.byte, .bool x.ge, .bool x.start, .int .u8 x.light, .int .u8 x.color]) (.agg #[.int .u8 y.byte, .bool y.ge, .bool y.start, .int .u8 y.light, .int .u8 y.color])).run Try.prog w = .ok (.bool (!decide (x = y))) w := by
  rw [run_neq_struct, eqIn_cell]; rfl
theorem run_eql_cell (w : World) (x y : Cell) : (binOp .eql 96 (.agg #[.int .u8 x.byte, .bool x.ge, .bool x.start, .int .u8 x.light, .int .u8 x.color]) (.agg #[.int .u8 y.byte, .bool y.ge, .bool y.start, .int .u8 y.light, .int .u8 y.color])).run Try.prog w = .ok (.bool (decide (x = y))) w := by
  rw [run_eql_struct, eqIn_cell]; rfl
theorem run_eql_size (w : World) (a b c e : Int) : (binOp .eql 48 (.agg #[.int .i64 a, .int .i64 b]) (.agg #[.int .i64 c, .int .i64 e])).run Try.prog w = .ok (.bool (decide (a = c ∧ b = e))) w := by
  rw [run_eql_struct, eqIn_size]; rfl
end Go.Proofs.Ytbkddgeocmkegaa

namespace Go.Proofs.Ytbkddgeocmkegaa
open Go.RowKit Go.Shelf
set_option linter.unusedSimpArgs false
set_option linter.unusedVariables false
set_option maxHeartbeats 2000000
attribute [local go_sem ↓] run_start run_byte run_cols run_neq_cell run_eql_cell run_eql_size

theorem PL.row5 {w : World} {g b cap : Nat} {P : Pl} (h : PL w g b cap P) (i : Nat) (hi : i < P.cells.length) :
    w.cell? ⟨b, i * 5, none⟩ = some (.int .u8 P.cells[i].byte) ∧ w.cell? ⟨b, i * 5 + 1, none⟩ = some (.bool P.cells[i].ge) ∧ w.cell? ⟨b, i * 5 + 2, none⟩ = some (.bool P.cells[i].start) ∧ w.cell? ⟨b, i * 5 + 3, none⟩ = some (.int .u8 P.cells[i].light) ∧ w.cell? ⟨b, i * 5 + 4, none⟩ = some (.int .u8 P.cells[i].color) := by
  have k0 := h.cell i hi 0 (by omega)
  have k1 := h.cell i hi 1 (by omega)
  have k2 := h.cell i hi 2 (by omega)
  have k3 := h.cell i hi 3 (by omega)
  have k4 := h.cell i hi 4 (by omega)
  simp [Cell.vals] at k0 k1 k2 k3 k4
  exact ⟨k0, k1, k2, k3, k4⟩

set_option maxRecDepth 100000 in
theorem Equal_any {w : World} {g b cap g' b' cap' : Nat} {P Q : Pl} (h : PL w g b cap P) (h' : PL w g' b' cap' Q) :
    Calls Try.prog 88 #[.slice (some ⟨b, 0, none⟩) P.cells.length cap, .slice (some ⟨b', 0, none⟩) Q.cells.length cap'] w fun e w' => e = .returned (.bool (decide (P.cells = Q.cells))) ∧ Below w.heap.size w w' := by
  have hm := Pl.N_le h.ok
  by_cases hl : P.cells.length = Q.cells.length
  · have hb0 : ((P.cells.length : Int) != (Q.cells.length : Int)) = false := by rw [hl]; simp
    have HL := Lib.hid hl
    clear hl
    go_enter Try.func88, Try.ntmps88
    go_wp2
    go_loopw [13] (fun i wr => ∃ k : Nat, k ≤ P.cells.length ∧ i = .int .i64 (k : Int) ∧ Below w.heap.size w wr ∧ ∀ (j : Nat) (h1 : j < P.cells.length) (h2 : j < Q.cells.length), j < k → P.cells[j] = Q.cells[j]) (fun i _ => P.cells.length - (intOf i).toNat)
    case atStart => exact ⟨0, Nat.zero_le _, rfl, Below.refl _ _, fun j _ _ hj => absurd hj (Nat.not_lt_zero _)⟩
    case round =>
      obtain ⟨k, hk, rfl, hB, hf⟩ := hrel
      have HF := Lib.hid hf
      clear hf
      by_cases hlt : k < P.cells.length
      · have hlt2 : k < Q.cells.length := by have := HL.out; omega
        obtain ⟨k0, k1, k2, k3, k4⟩ := (h.below hB).row5 k hlt
        obtain ⟨j0, j1, j2, j3, j4⟩ := (h'.below hB).row5 k hlt2
        have i1 : (k : Int) < (P.cells.length : Int) := by omega
        have i2 : (k : Int) < (Q.cells.length : Int) := by omega
        generalize hp : P.cells[k] = p at *
        generalize hq : Q.cells[k] = q at *
        have HP := Lib.hid hp
        have HQ := Lib.hid hq
        clear hp hq
        cases hpq : decide (p = q)
        · go_wp2
          go_quiet (fail)
          go_wp2
          go_ret
          exact ⟨by rw [decide_eq_false (fun (e : P.cells = Q.cells) => (of_decide_eq_false hpq) (by rw [← HP.out, ← HQ.out]; exact getElem_congr_coll e))]; rfl, below_drewN hB _⟩
        · have hpq' := of_decide_eq_true hpq
          go_wp2
          go_quiet (fail)
          go_wp2
          refine ⟨⟨k + 1, by omega, by go_num, below_drewN hB _, fun j h1 h2 hj => ?_⟩, by simp [intOf]; omega⟩
          rcases Nat.lt_succ_iff_lt_or_eq.1 hj with hj | rfl
          · exact HF.out j h1 h2 hj
          · rw [HP.out, HQ.out]; exact hpq'
      · go_wp2
        go_ret
        exact ⟨by rw [decide_eq_true (List.ext_getElem HL.out (fun j h1 h2 => HF.out j h1 h2 (by omega)))]; rfl, hB⟩
  · have hb0 : ((P.cells.length : Int) != (Q.cells.length : Int)) = true := by simp; omega
    go_enter Try.func88, Try.ntmps88
    go_wp2
    go_ret
    exact ⟨by rw [decide_eq_false (fun e => hl (by rw [e]))]; rfl, Below.refl _ _⟩

def SamePl (P Q : Pl) : Bool := decide (P.rows = Q.rows ∧ P.cols = Q.cols) && ((P.cursor == Q.cursor) && decide (P.cells = Q.cells))
def K8 (g g' b b' cap cap' : Nat) (P Q : Pl) (W : World) : Prop :=
  (W.cell? ⟨g, 0, none⟩ = some (.int .i64 P.rows) ∧ W.cell? ⟨g, 1, none⟩ = some (.int .i64 P.cols) ∧ W.cell? ⟨g, 2, none⟩ = some (.slice (some ⟨b, 0, none⟩) P.cells.length cap) ∧ W.cell? ⟨g, 3, none⟩ = some (.int .i64 P.cursor)) ∧
  (W.cell? ⟨g', 0, none⟩ = some (.int .i64 Q.rows) ∧ W.cell? ⟨g', 1, none⟩ = some (.int .i64 Q.cols) ∧ W.cell? ⟨g', 2, none⟩ = some (.slice (some ⟨b', 0, none⟩) Q.cells.length cap') ∧ W.cell? ⟨g', 3, none⟩ = some (.int .i64 Q.cursor))

theorem Same_any {w : World} {g b cap g' b' cap' : Nat} {P Q : Pl} (h : PL w g b cap P) (h' : PL w g' b' cap' Q) :
    Calls Try.prog 30 #[.pointer (some ⟨g, 0, none⟩), .pointer (some ⟨g', 0, none⟩)] w fun e w' => e = .returned (.bool (SamePl P Q)) ∧ Below w.heap.size w w' := by
  have f0 := h.f0
  have f1 := h.f1
  have f2 := h.f2
  have f3 := h.f3
  have g0 := h'.f0
  have g1 := h'.f1
  have g2 := h'.f2
  have g3 := h'.f3
  have E := Lib.hid (show SamePl P Q = (decide (P.rows = Q.rows ∧ P.cols = Q.cols) && ((P.cursor == Q.cursor) && decide (P.cells = Q.cells))) from rfl)
  cases d0 : decide (P.rows = Q.rows ∧ P.cols = Q.cols)
  · go_enter Try.func30, Try.ntmps30
    go_wp2
    go_quiet (fail)
    go_wp2
    go_ret
    exact ⟨by rw [E.out, d0]; rfl, below_drewN (Below.refl _ _) _⟩
  · cases d1 : (P.cursor == Q.cursor)
    · go_enter Try.func30, Try.ntmps30
      go_wp2
      go_quiet (fail)
      go_wp2
      go_ret
      exact ⟨by rw [E.out, d0, d1]; rfl, below_drewN (Below.refl _ _) _⟩
    · go_enter Try.func30, Try.ntmps30
      go_wp2
      go_region_held3 (fun w' => (w'.cell? ⟨g, 0, none⟩ = some (.int .i64 P.rows) ∧ w'.cell? ⟨g, 1, none⟩ = some (.int .i64 P.cols) ∧ w'.cell? ⟨g, 2, none⟩ = some (.slice (some ⟨b, 0, none⟩) P.cells.length cap) ∧ w'.cell? ⟨g, 3, none⟩ = some (.int .i64 P.cursor)) ∧
          (w'.cell? ⟨g', 0, none⟩ = some (.int .i64 Q.rows) ∧ w'.cell? ⟨g', 1, none⟩ = some (.int .i64 Q.cols) ∧ w'.cell? ⟨g', 2, none⟩ = some (.slice (some ⟨b', 0, none⟩) Q.cells.length cap') ∧ w'.cell? ⟨g', 3, none⟩ = some (.int .i64 Q.cursor)))
        (first | exact ⟨keep4 (And.left (by assumption)) hb1, keep4 (And.right (by assumption)) hb1⟩ | go_keep)
        (first | (go_at_call 88; refine (Equal_any h.drew h'.drew).mono ?_; rintro e w1 ⟨rfl, hb1⟩))
      go_wp2
      go_ret
      exact ⟨by rw [E.out, d0, d1]; rfl, (Below.refl _ _).drew.trans hb1⟩
end Go.Proofs.Ytbkddgeocmkegaa

/-! The document's planes: cells in memory, the plane itself a value. -/
namespace Go.Proofs.Ytbkddgeocmkegaa
open Go.RowKit Go.Shelf
set_option linter.unusedSimpArgs false
set_option linter.unusedVariables false
set_option maxHeartbeats 2000000

structure RC (w : World) (b : Nat) (P : Pl) : Prop where
  hb : ∃ rest : List Value, w.heap[b]? = some (.cells (flat P.cells ++ rest).toArray 96 (0, 0))
  ok : P.ok
namespace RC
variable {w : World} {b : Nat} {P : Pl}
theorem bl (h : RC w b P) : b < w.heap.size := let ⟨_, h'⟩ := h.hb; lt_of_block h'
theorem below {w' : World} (h : RC w b P) (hb : Below w.heap.size w w') : RC w' b P := ⟨let ⟨r, h'⟩ := h.hb; ⟨r, (hb.block b h.bl).trans h'⟩, h.ok⟩
theorem cell (h : RC w b P) (i : Nat) (hi : i < P.cells.length) (k : Nat) (hk : k < 5) : w.cell? ⟨b, i * 5 + k, none⟩ = (P.cells[i].vals)[k]? := by
  obtain ⟨r, hb⟩ := h.hb
  simp only [World.cell?, hb]
  simp only [Option.isSome_none, Bool.false_eq_true, if_false, List.getElem?_toArray]
  rw [List.getElem?_append_left (by rw [flat_len]; omega), flat_get _ _ hi _ hk]
theorem row5 (h : RC w b P) (i : Nat) (hi : i < P.cells.length) :
    w.cell? ⟨b, i * 5, none⟩ = some (.int .u8 P.cells[i].byte) ∧ w.cell? ⟨b, i * 5 + 1, none⟩ = some (.bool P.cells[i].ge) ∧ w.cell? ⟨b, i * 5 + 2, none⟩ = some (.bool P.cells[i].start) ∧ w.cell? ⟨b, i * 5 + 3, none⟩ = some (.int .u8 P.cells[i].light) ∧ w.cell? ⟨b, i * 5 + 4, none⟩ = some (.int .u8 P.cells[i].color) := by
  have k0 := h.cell i hi 0 (by omega)
  have k1 := h.cell i hi 1 (by omega)
  have k2 := h.cell i hi 2 (by omega)
  have k3 := h.cell i hi 3 (by omega)
  have k4 := h.cell i hi 4 (by omega)
  simp [Cell.vals] at k0 k1 k2 k3 k4
  exact ⟨k0, k1, k2, k3, k4⟩
end RC
theorem PL.rc {w : World} {g b cap : Nat} {P : Pl} (h : PL w g b cap P) : RC w b P := ⟨h.hb, h.ok⟩
theorem Pl.at_get {P : Pl} {i : Nat} (h : i < P.cells.length) : P.at (i : Int) = P.cells[i] := by
  unfold Pl.at
  rw [if_pos ⟨by omega, by omega⟩, Int.toNat_natCast, getD_lt _ _ _ h]
theorem Pl.isSt_get {P : Pl} {i : Nat} (h : i < P.cells.length) : P.isSt i = P.cells[i].start := by unfold Pl.isSt; rw [Pl.at_get h]

/-- What a box holds, later on. -/
theorem box4 {w wr : World} {x0 x1 x2 x3 : Value} {T : TypeId} (h : Below (w.heap.size + 1) (w.alloc (.cells #[x0, x1, x2, x3] T)) wr) :
    wr.cell? ⟨w.heap.size, 0, none⟩ = some x0 ∧ wr.cell? ⟨w.heap.size, 1, none⟩ = some x1 ∧ wr.cell? ⟨w.heap.size, 2, none⟩ = some x2 ∧ wr.cell? ⟨w.heap.size, 3, none⟩ = some x3 := by
  have e := (h.block w.heap.size (by omega)).trans (World.alloc_heap_new w (.cells #[x0, x1, x2, x3] T))
  simp [World.cell?, e]
theorem below_of_box {w wr : World} {o : Obj} (h : Below (w.heap.size + 1) (w.alloc o) wr) : Below w.heap.size w wr :=
  ((Below.refl w.heap.size w).alloc (Nat.le_refl _) o).trans (h.mono (by omega))

/-! Rows of numbers. -/
def ints (l : List Int) : List Value := l.map (Value.int .i64)
@[simp] theorem ints_len (l : List Int) : (ints l).length = l.length := by simp [ints]
def IntsPost (l : List Int) (w : World) (e : Ending) (w' : World) : Prop :=
  ∃ (g cap : Nat) (rest : List Value), e = .returned (.slice (some ⟨g, 0, none⟩) l.length cap) ∧ w'.heap[g]? = some (.cells (ints l ++ rest).toArray 3 (0, 0)) ∧ w.heap.size ≤ g ∧ Below w.heap.size w w'
theorem info_int : (Try.prog.info? 3).map (fun i => (i.zero, i.size, i.bytes)) = some (some (.int .i64 0), 1, 8) := by kernel_rfl
theorem owns_row {w : World} {B T k g n c : Nat} {xs : List Value} (h : w.ownsRow B T k (.slice (some ⟨g, 0, none⟩) n c) n xs) : B ≤ g ∧ ∃ rest, w.heap[g]? = some (.cells (xs ++ rest).toArray T (0, 0)) := by
  obtain ⟨_, hv | ⟨g3, c3, cur, hv, hge, hh, _, _, _, htk⟩⟩ := h
  · cases hv.1
  · cases hv
    exact ⟨hge, _, by rw [hh, ← rest_of htk]⟩
theorem ints_get {w : World} {g : Nat} {l : List Int} {rest : List Value} (h : w.heap[g]? = some (.cells (ints l ++ rest).toArray 3 (0, 0))) (i : Nat) (hi : i < l.length) : w.cell? ⟨g, i, none⟩ = some (.int .i64 l[i]) := by
  simp only [World.cell?, h, Option.isSome_none, Bool.false_eq_true, if_false, List.getElem?_toArray]
  rw [List.getElem?_append_left (by simpa using hi)]
  simp [ints, hi]

/-- The starts below a place. -/
def Pl.stl (P : Pl) (k : Nat) : List Int := ((List.range k).filter P.isSt).map fun (i : Nat) => (i : Int)
theorem Pl.stl_len (P : Pl) (k : Nat) : (P.stl k).length = P.cnt k := by simp [Pl.stl, Pl.cnt]
theorem Pl.stl_step (P : Pl) (k : Nat) (h : P.isSt k = true) : P.stl (k + 1) = P.stl k ++ [(k : Int)] ∧ P.cnt (k + 1) = P.cnt k + 1 := by
  rw [Pl.cnt_succ, h]
  refine ⟨?_, rfl⟩
  unfold Pl.stl
  rw [List.range_succ, List.filter_append]
  simp [h]
theorem Pl.stl_skip (P : Pl) (k : Nat) (h : P.isSt k = false) : P.stl (k + 1) = P.stl k ∧ P.cnt (k + 1) = P.cnt k := by
  rw [Pl.cnt_succ, h]
  refine ⟨?_, rfl⟩
  unfold Pl.stl
  rw [List.range_succ, List.filter_append]
  simp [h]
theorem Pl.cnt_le_self (P : Pl) (k : Nat) : P.cnt k ≤ k := by
  unfold Pl.cnt
  have := List.length_filter_le P.isSt (List.range k)
  simpa using this

set_option maxRecDepth 100000 in
theorem rStarts_any {w : World} {b cap : Nat} {P : Pl} (h : RC w b P) :
    Calls Try.prog 160 #[.agg #[.int .i64 P.rows, .int .i64 P.cols, .slice (some ⟨b, 0, none⟩) P.cells.length cap, .int .i64 P.cursor]] w (IntsPost (P.stl P.cells.length) w) := by
  have hn := Pl.N_pos h.ok
  have hm := Pl.N_le h.ok
  have hbl := h.bl
  have HI := Lib.hid info_int
  go_enter Try.func160, Try.ntmps160
  go_wp2
  go_loopw [3, 4] (fun v i wr => ∃ k g c : Nat, k ≤ P.cells.length ∧ i = .int .i64 (k : Int) ∧ v = .slice (some ⟨g, 0, none⟩) (P.cnt k) c ∧ wr.ownsRow (w.heap.size + 1) 3 1 v (P.cnt k) (ints (P.stl k)) ∧ Below (w.heap.size + 1) (w.alloc (.cells #[.int .i64 P.rows, .int .i64 P.cols, .slice (some ⟨b, 0, none⟩) P.cells.length cap, .int .i64 P.cursor] 77)) wr) (fun _ i _ => P.cells.length - (intOf i).toNat)
  case atStart =>
    exact ⟨0, _, _, Nat.zero_le _, rfl, rfl, by have := owns_empty (w.alloc (.cells #[.int .i64 P.rows, .int .i64 P.cols, .slice (some ⟨b, 0, none⟩) P.cells.length cap, .int .i64 P.cursor] 77)) 3 1; rw [World.size_alloc] at this; exact this, (Below.refl _ _).alloc (by simp) _⟩
  case round =>
    obtain ⟨k, g, c, hk, rfl, rfl, hown, hB⟩ := hrel
    obtain ⟨x0, x1, x2, x3⟩ := box4 hB
    have hck := P.cnt_le_self k
    have hzB := hB.size
    simp at hzB
    by_cases hlt : k < P.cells.length
    · obtain ⟨-, -, k2, -, -⟩ := (h.below (below_of_box hB)).row5 k hlt
      rw [← Pl.isSt_get hlt] at k2
      have hlt' : (k : Int) < (P.cells.length : Int) := by omega
      cases hs : P.isSt k
      · have HS := Lib.hid hs
        go_wp2
        go_roundw
        case rel =>
          have e := P.stl_skip k HS.out
          exact ⟨k + 1, g, c, by omega, by go_num, by rw [e.2], by rw [e.1, e.2]; exact hown, hB⟩
        case measure => simp [intOf]; omega
      · have HS := Lib.hid hs
        have hge := (hown.lt g rfl).1
        go_wp2_with (at_builtin; obtain ⟨i0, hi, hz0, hz1, hz2⟩ := info_parts HI.out; refine wpList_append_lies _ rfl _ _ 68 rfl (w.heap.size + 1) 3 i0 _ 1 8 Try.underlying68 hi hz0 hz1 hz2 rfl (by decide) _ _ _ rfl (hown.alloc _) ⟨wr.heap.size, 0, none⟩ 1 1 [.int .i64 (k : Int)] rfl rfl (World.news_of_block (World.alloc_heap_new _ _)) (by intro u hu; simp at hu; subst hu; rfl) (by decide) (by unfold maxLen; omega) (by omega) (by simp; omega) (wr.heap.size + 1) (by simp) ?_; clear hi hz0 hz1 hz2; intro g2 c2 w2 hown2 hgr hat hlt2)
        go_wp2
        go_roundw
        case rel =>
          have e := P.stl_step k HS.out
          exact ⟨k + 1, g2, c2, by omega, by go_num, by rw [e.2], by rw [e.1, e.2]; simpa [ints] using hown2, (hB.alloc (by omega) _).grown hgr (by simp; omega) (fun j e => by cases e; exact hge)⟩
        case measure => simp [intOf]; omega
    · have e : k = P.cells.length := by omega
      subst e
      go_wp2
      go_ret
      have ho := owns_row hown
      obtain ⟨h1, r, h2⟩ := ho
      exact ⟨g, c, r, by rw [Pl.stl_len]; rfl, h2, by omega, below_of_box hB⟩
end Go.Proofs.Ytbkddgeocmkegaa

namespace Go.Proofs.Ytbkddgeocmkegaa
open Go.RowKit Go.Shelf
set_option linter.unusedSimpArgs false
set_option linter.unusedVariables false
set_option maxHeartbeats 2000000
attribute [local go_sem ↓] run_start run_byte run_cols

theorem rHeld_in (n lo hi : Int) (w : World) :
    Calls Try.prog 201 #[.int .i64 n, .int .i64 lo, .int .i64 hi] w fun e w' => e = .returned (.int .i64 (if n < lo then lo else if hi < n then hi else n)) ∧ Below w.heap.size w w' := by
  by_cases h1 : n < lo
  · go_enter Try.func201, Try.ntmps201
    go_wp2
    go_ret
    exact ⟨rfl, by with_reducible (repeat (first | exact Below.refl _ _ | assumption | (refine Below.setCell ?_ (by first | omega | (simp; done) | (simp; omega)) _) | (refine Below.alloc ?_ (by first | omega | (simp; done) | (simp; omega)) _) | (refine below_drewN ?_ _) | (refine Below.drew ?_) | (refine Below.trans ?_ (Below.mono hb (by first | omega | (simp; done) | (simp; omega)))) | (refine Below.trans ?_ (Below.mono hb1 (by first | omega | (simp; done) | (simp; omega)))) | (refine Below.trans ?_ (Below.mono hb2 (by first | omega | (simp; done) | (simp; omega)))) | (refine Below.trans ?_ (Below.mono hb3 (by first | omega | (simp; done) | (simp; omega)))) | (refine Below.trans ?_ (Below.mono hb4 (by first | omega | (simp; done) | (simp; omega)))) | (refine Below.trans ?_ (Below.mono hb5 (by first | omega | (simp; done) | (simp; omega)))) | (refine Below.trans ?_ (Below.mono hb6 (by first | omega | (simp; done) | (simp; omega)))) | (refine Below.trans ?_ (Below.mono hb7 (by first | omega | (simp; done) | (simp; omega)))) | (refine Below.trans ?_ (Below.mono hb8 (by first | omega | (simp; done) | (simp; omega)))) | (refine Below.trans ?_ (Below.mono hb9 (by first | omega | (simp; done) | (simp; omega)))) | (refine Below.trans ?_ (Below.mono hb10 (by first | omega | (simp; done) | (simp; omega)))) | (refine Below.trans ?_ (Below.mono hb11 (by first | omega | (simp; done) | (simp; omega)))) | (refine Below.trans ?_ (Below.mono hb12 (by first | omega | (simp; done) | (simp; omega))))))⟩
  · by_cases h2 : hi < n
    · go_enter Try.func201, Try.ntmps201
      go_wp2
      go_ret
      exact ⟨rfl, by with_reducible (repeat (first | exact Below.refl _ _ | assumption | (refine Below.setCell ?_ (by first | omega | (simp; done) | (simp; omega)) _) | (refine Below.alloc ?_ (by first | omega | (simp; done) | (simp; omega)) _) | (refine below_drewN ?_ _) | (refine Below.drew ?_) | (refine Below.trans ?_ (Below.mono hb (by first | omega | (simp; done) | (simp; omega)))) | (refine Below.trans ?_ (Below.mono hb1 (by first | omega | (simp; done) | (simp; omega)))) | (refine Below.trans ?_ (Below.mono hb2 (by first | omega | (simp; done) | (simp; omega)))) | (refine Below.trans ?_ (Below.mono hb3 (by first | omega | (simp; done) | (simp; omega)))) | (refine Below.trans ?_ (Below.mono hb4 (by first | omega | (simp; done) | (simp; omega)))) | (refine Below.trans ?_ (Below.mono hb5 (by first | omega | (simp; done) | (simp; omega)))) | (refine Below.trans ?_ (Below.mono hb6 (by first | omega | (simp; done) | (simp; omega)))) | (refine Below.trans ?_ (Below.mono hb7 (by first | omega | (simp; done) | (simp; omega)))) | (refine Below.trans ?_ (Below.mono hb8 (by first | omega | (simp; done) | (simp; omega)))) | (refine Below.trans ?_ (Below.mono hb9 (by first | omega | (simp; done) | (simp; omega)))) | (refine Below.trans ?_ (Below.mono hb10 (by first | omega | (simp; done) | (simp; omega)))) | (refine Below.trans ?_ (Below.mono hb11 (by first | omega | (simp; done) | (simp; omega)))) | (refine Below.trans ?_ (Below.mono hb12 (by first | omega | (simp; done) | (simp; omega))))))⟩
    · go_enter Try.func201, Try.ntmps201
      go_wp2
      go_ret
      exact ⟨rfl, by with_reducible (repeat (first | exact Below.refl _ _ | assumption | (refine Below.setCell ?_ (by first | omega | (simp; done) | (simp; omega)) _) | (refine Below.alloc ?_ (by first | omega | (simp; done) | (simp; omega)) _) | (refine below_drewN ?_ _) | (refine Below.drew ?_) | (refine Below.trans ?_ (Below.mono hb (by first | omega | (simp; done) | (simp; omega)))) | (refine Below.trans ?_ (Below.mono hb1 (by first | omega | (simp; done) | (simp; omega)))) | (refine Below.trans ?_ (Below.mono hb2 (by first | omega | (simp; done) | (simp; omega)))) | (refine Below.trans ?_ (Below.mono hb3 (by first | omega | (simp; done) | (simp; omega)))) | (refine Below.trans ?_ (Below.mono hb4 (by first | omega | (simp; done) | (simp; omega)))) | (refine Below.trans ?_ (Below.mono hb5 (by first | omega | (simp; done) | (simp; omega)))) | (refine Below.trans ?_ (Below.mono hb6 (by first | omega | (simp; done) | (simp; omega)))) | (refine Below.trans ?_ (Below.mono hb7 (by first | omega | (simp; done) | (simp; omega)))) | (refine Below.trans ?_ (Below.mono hb8 (by first | omega | (simp; done) | (simp; omega)))) | (refine Below.trans ?_ (Below.mono hb9 (by first | omega | (simp; done) | (simp; omega)))) | (refine Below.trans ?_ (Below.mono hb10 (by first | omega | (simp; done) | (simp; omega)))) | (refine Below.trans ?_ (Below.mono hb11 (by first | omega | (simp; done) | (simp; omega)))) | (refine Below.trans ?_ (Below.mono hb12 (by first | omega | (simp; done) | (simp; omega))))))⟩

theorem rHas_any {w : World} {b cap : Nat} {P : Pl} (at' : Int) :
    Calls Try.prog 119 #[.agg #[.int .i64 P.rows, .int .i64 P.cols, .slice (some ⟨b, 0, none⟩) P.cells.length cap, .int .i64 P.cursor], .int .i64 at'] w fun e w' => e = .returned (.bool (P.inB at')) ∧ Below w.heap.size w w' := by
  have E := Lib.hid (show P.inB at' = decide (0 ≤ at' ∧ at' < (P.cells.length : Int)) from rfl)
  by_cases h1 : 0 ≤ at'
  · go_enter Try.func119, Try.ntmps119
    go_wp2
    go_ret
    exact ⟨by rw [E.out]; simp [h1], by with_reducible (repeat (first | exact Below.refl _ _ | assumption | (refine Below.setCell ?_ (by first | omega | (simp; done) | (simp; omega)) _) | (refine Below.alloc ?_ (by first | omega | (simp; done) | (simp; omega)) _) | (refine below_drewN ?_ _) | (refine Below.drew ?_) | (refine Below.trans ?_ (Below.mono hb (by first | omega | (simp; done) | (simp; omega)))) | (refine Below.trans ?_ (Below.mono hb1 (by first | omega | (simp; done) | (simp; omega)))) | (refine Below.trans ?_ (Below.mono hb2 (by first | omega | (simp; done) | (simp; omega)))) | (refine Below.trans ?_ (Below.mono hb3 (by first | omega | (simp; done) | (simp; omega)))) | (refine Below.trans ?_ (Below.mono hb4 (by first | omega | (simp; done) | (simp; omega)))) | (refine Below.trans ?_ (Below.mono hb5 (by first | omega | (simp; done) | (simp; omega)))) | (refine Below.trans ?_ (Below.mono hb6 (by first | omega | (simp; done) | (simp; omega)))) | (refine Below.trans ?_ (Below.mono hb7 (by first | omega | (simp; done) | (simp; omega)))) | (refine Below.trans ?_ (Below.mono hb8 (by first | omega | (simp; done) | (simp; omega)))) | (refine Below.trans ?_ (Below.mono hb9 (by first | omega | (simp; done) | (simp; omega)))) | (refine Below.trans ?_ (Below.mono hb10 (by first | omega | (simp; done) | (simp; omega)))) | (refine Below.trans ?_ (Below.mono hb11 (by first | omega | (simp; done) | (simp; omega)))) | (refine Below.trans ?_ (Below.mono hb12 (by first | omega | (simp; done) | (simp; omega))))))⟩
  · go_enter Try.func119, Try.ntmps119
    go_wp2
    go_ret
    exact ⟨by rw [E.out]; simp; omega, by with_reducible (repeat (first | exact Below.refl _ _ | assumption | (refine Below.setCell ?_ (by first | omega | (simp; done) | (simp; omega)) _) | (refine Below.alloc ?_ (by first | omega | (simp; done) | (simp; omega)) _) | (refine below_drewN ?_ _) | (refine Below.drew ?_) | (refine Below.trans ?_ (Below.mono hb (by first | omega | (simp; done) | (simp; omega)))) | (refine Below.trans ?_ (Below.mono hb1 (by first | omega | (simp; done) | (simp; omega)))) | (refine Below.trans ?_ (Below.mono hb2 (by first | omega | (simp; done) | (simp; omega)))) | (refine Below.trans ?_ (Below.mono hb3 (by first | omega | (simp; done) | (simp; omega)))) | (refine Below.trans ?_ (Below.mono hb4 (by first | omega | (simp; done) | (simp; omega)))) | (refine Below.trans ?_ (Below.mono hb5 (by first | omega | (simp; done) | (simp; omega)))) | (refine Below.trans ?_ (Below.mono hb6 (by first | omega | (simp; done) | (simp; omega)))) | (refine Below.trans ?_ (Below.mono hb7 (by first | omega | (simp; done) | (simp; omega)))) | (refine Below.trans ?_ (Below.mono hb8 (by first | omega | (simp; done) | (simp; omega)))) | (refine Below.trans ?_ (Below.mono hb9 (by first | omega | (simp; done) | (simp; omega)))) | (refine Below.trans ?_ (Below.mono hb10 (by first | omega | (simp; done) | (simp; omega)))) | (refine Below.trans ?_ (Below.mono hb11 (by first | omega | (simp; done) | (simp; omega)))) | (refine Below.trans ?_ (Below.mono hb12 (by first | omega | (simp; done) | (simp; omega))))))⟩

def bitAt (x v : Int) : Bool := x / v % 2 == 1
theorem rBit_in (x v : Int) (w : World) (h : 0 ≤ x ∧ x ≤ 255) (hv : 1 ≤ v ∧ v ≤ 255) :
    Calls Try.prog 99 #[.int .u8 x, .int .i64 v] w fun e w' => e = .returned (.bool (bitAt x v)) ∧ Below w.heap.size w w' := by
  obtain ⟨h0, h1⟩ := h
  obtain ⟨v0, v1⟩ := hv
  have hq : 0 ≤ x / v := Int.ediv_nonneg h0 (by omega)
  have hq2 : x / v ≤ x := Int.ediv_le_self _ h0
  go_enter Try.func99, Try.ntmps99
  go_wp2
  go_ret
  exact ⟨rfl, by with_reducible (repeat (first | exact Below.refl _ _ | assumption | (refine Below.setCell ?_ (by first | omega | (simp; done) | (simp; omega)) _) | (refine Below.alloc ?_ (by first | omega | (simp; done) | (simp; omega)) _) | (refine below_drewN ?_ _) | (refine Below.drew ?_) | (refine Below.trans ?_ (Below.mono hb (by first | omega | (simp; done) | (simp; omega)))) | (refine Below.trans ?_ (Below.mono hb1 (by first | omega | (simp; done) | (simp; omega)))) | (refine Below.trans ?_ (Below.mono hb2 (by first | omega | (simp; done) | (simp; omega)))) | (refine Below.trans ?_ (Below.mono hb3 (by first | omega | (simp; done) | (simp; omega)))) | (refine Below.trans ?_ (Below.mono hb4 (by first | omega | (simp; done) | (simp; omega)))) | (refine Below.trans ?_ (Below.mono hb5 (by first | omega | (simp; done) | (simp; omega)))) | (refine Below.trans ?_ (Below.mono hb6 (by first | omega | (simp; done) | (simp; omega)))) | (refine Below.trans ?_ (Below.mono hb7 (by first | omega | (simp; done) | (simp; omega)))) | (refine Below.trans ?_ (Below.mono hb8 (by first | omega | (simp; done) | (simp; omega)))) | (refine Below.trans ?_ (Below.mono hb9 (by first | omega | (simp; done) | (simp; omega)))) | (refine Below.trans ?_ (Below.mono hb10 (by first | omega | (simp; done) | (simp; omega)))) | (refine Below.trans ?_ (Below.mono hb11 (by first | omega | (simp; done) | (simp; omega)))) | (refine Below.trans ?_ (Below.mono hb12 (by first | omega | (simp; done) | (simp; omega))))))⟩
theorem bit_prot (x : Int) : bitAt x 32 = prot x := rfl
theorem bit_nume (x : Int) : bitAt x 16 = nume x := rfl

def goodSize (r c : Int) : Bool := decide (1 ≤ r ∧ r ≤ 43 ∧ 1 ≤ c ∧ c ≤ 132 ∧ r * c ≤ 4096)
theorem rCells_in (r c : Int) (w : World) (h : goodSize r c = true) :
    Calls Try.prog 158 #[.agg #[.int .i64 r, .int .i64 c]] w fun e w' => e = .returned (.int .i64 (r * c)) ∧ Below w.heap.size w w' := by
  obtain ⟨h1, h2, h3, h4, h5⟩ := of_decide_eq_true h
  have h0 : 0 ≤ r * c := Int.mul_nonneg (by omega) (by omega)
  go_enter Try.func158, Try.ntmps158
  go_wp2
  go_ret
  exact ⟨rfl, by with_reducible (repeat (first | exact Below.refl _ _ | assumption | (refine Below.setCell ?_ (by first | omega | (simp; done) | (simp; omega)) _) | (refine Below.alloc ?_ (by first | omega | (simp; done) | (simp; omega)) _) | (refine below_drewN ?_ _) | (refine Below.drew ?_) | (refine Below.trans ?_ (Below.mono hb (by first | omega | (simp; done) | (simp; omega)))) | (refine Below.trans ?_ (Below.mono hb1 (by first | omega | (simp; done) | (simp; omega)))) | (refine Below.trans ?_ (Below.mono hb2 (by first | omega | (simp; done) | (simp; omega)))) | (refine Below.trans ?_ (Below.mono hb3 (by first | omega | (simp; done) | (simp; omega)))) | (refine Below.trans ?_ (Below.mono hb4 (by first | omega | (simp; done) | (simp; omega)))) | (refine Below.trans ?_ (Below.mono hb5 (by first | omega | (simp; done) | (simp; omega)))) | (refine Below.trans ?_ (Below.mono hb6 (by first | omega | (simp; done) | (simp; omega)))) | (refine Below.trans ?_ (Below.mono hb7 (by first | omega | (simp; done) | (simp; omega)))) | (refine Below.trans ?_ (Below.mono hb8 (by first | omega | (simp; done) | (simp; omega)))) | (refine Below.trans ?_ (Below.mono hb9 (by first | omega | (simp; done) | (simp; omega)))) | (refine Below.trans ?_ (Below.mono hb10 (by first | omega | (simp; done) | (simp; omega)))) | (refine Below.trans ?_ (Below.mono hb11 (by first | omega | (simp; done) | (simp; omega)))) | (refine Below.trans ?_ (Below.mono hb12 (by first | omega | (simp; done) | (simp; omega))))))⟩
theorem rCells_bad (r c : Int) (w : World) (h : goodSize r c = false) :
    Calls Try.prog 158 #[.agg #[.int .i64 r, .int .i64 c]] w fun e w' => e = .returned (.int .i64 0) ∧ Below w.heap.size w w' := by
  have h' := of_decide_eq_false h
  have H := Lib.hid h'
  clear h h'
  by_cases h1 : 1 ≤ r
  · by_cases h2 : r ≤ 43
    · by_cases h3 : 1 ≤ c
      · by_cases h4 : c ≤ 132
        · have h5 : 4096 < r * c := by have := H.out; simp only [h1, h2, h3, h4, true_and] at this; omega
          have h6 : r * c ≤ 43 * 132 := Int.mul_le_mul h2 h4 (by omega) (by omega)
          go_enter Try.func158, Try.ntmps158
          go_wp2
          go_ret
          exact ⟨rfl, by with_reducible (repeat (first | exact Below.refl _ _ | assumption | (refine Below.setCell ?_ (by first | omega | (simp; done) | (simp; omega)) _) | (refine Below.alloc ?_ (by first | omega | (simp; done) | (simp; omega)) _) | (refine below_drewN ?_ _) | (refine Below.drew ?_) | (refine Below.trans ?_ (Below.mono hb (by first | omega | (simp; done) | (simp; omega)))) | (refine Below.trans ?_ (Below.mono hb1 (by first | omega | (simp; done) | (simp; omega)))) | (refine Below.trans ?_ (Below.mono hb2 (by first | omega | (simp; done) | (simp; omega)))) | (refine Below.trans ?_ (Below.mono hb3 (by first | omega | (simp; done) | (simp; omega)))) | (refine Below.trans ?_ (Below.mono hb4 (by first | omega | (simp; done) | (simp; omega)))) | (refine Below.trans ?_ (Below.mono hb5 (by first | omega | (simp; done) | (simp; omega)))) | (refine Below.trans ?_ (Below.mono hb6 (by first | omega | (simp; done) | (simp; omega)))) | (refine Below.trans ?_ (Below.mono hb7 (by first | omega | (simp; done) | (simp; omega)))) | (refine Below.trans ?_ (Below.mono hb8 (by first | omega | (simp; done) | (simp; omega)))) | (refine Below.trans ?_ (Below.mono hb9 (by first | omega | (simp; done) | (simp; omega)))) | (refine Below.trans ?_ (Below.mono hb10 (by first | omega | (simp; done) | (simp; omega)))) | (refine Below.trans ?_ (Below.mono hb11 (by first | omega | (simp; done) | (simp; omega)))) | (refine Below.trans ?_ (Below.mono hb12 (by first | omega | (simp; done) | (simp; omega))))))⟩
        · go_enter Try.func158, Try.ntmps158
          go_wp2
          go_ret
          exact ⟨rfl, by with_reducible (repeat (first | exact Below.refl _ _ | assumption | (refine Below.setCell ?_ (by first | omega | (simp; done) | (simp; omega)) _) | (refine Below.alloc ?_ (by first | omega | (simp; done) | (simp; omega)) _) | (refine below_drewN ?_ _) | (refine Below.drew ?_) | (refine Below.trans ?_ (Below.mono hb (by first | omega | (simp; done) | (simp; omega)))) | (refine Below.trans ?_ (Below.mono hb1 (by first | omega | (simp; done) | (simp; omega)))) | (refine Below.trans ?_ (Below.mono hb2 (by first | omega | (simp; done) | (simp; omega)))) | (refine Below.trans ?_ (Below.mono hb3 (by first | omega | (simp; done) | (simp; omega)))) | (refine Below.trans ?_ (Below.mono hb4 (by first | omega | (simp; done) | (simp; omega)))) | (refine Below.trans ?_ (Below.mono hb5 (by first | omega | (simp; done) | (simp; omega)))) | (refine Below.trans ?_ (Below.mono hb6 (by first | omega | (simp; done) | (simp; omega)))) | (refine Below.trans ?_ (Below.mono hb7 (by first | omega | (simp; done) | (simp; omega)))) | (refine Below.trans ?_ (Below.mono hb8 (by first | omega | (simp; done) | (simp; omega)))) | (refine Below.trans ?_ (Below.mono hb9 (by first | omega | (simp; done) | (simp; omega)))) | (refine Below.trans ?_ (Below.mono hb10 (by first | omega | (simp; done) | (simp; omega)))) | (refine Below.trans ?_ (Below.mono hb11 (by first | omega | (simp; done) | (simp; omega)))) | (refine Below.trans ?_ (Below.mono hb12 (by first | omega | (simp; done) | (simp; omega))))))⟩
      · go_enter Try.func158, Try.ntmps158
        go_wp2
        go_ret
        exact ⟨rfl, by with_reducible (repeat (first | exact Below.refl _ _ | assumption | (refine Below.setCell ?_ (by first | omega | (simp; done) | (simp; omega)) _) | (refine Below.alloc ?_ (by first | omega | (simp; done) | (simp; omega)) _) | (refine below_drewN ?_ _) | (refine Below.drew ?_) | (refine Below.trans ?_ (Below.mono hb (by first | omega | (simp; done) | (simp; omega)))) | (refine Below.trans ?_ (Below.mono hb1 (by first | omega | (simp; done) | (simp; omega)))) | (refine Below.trans ?_ (Below.mono hb2 (by first | omega | (simp; done) | (simp; omega)))) | (refine Below.trans ?_ (Below.mono hb3 (by first | omega | (simp; done) | (simp; omega)))) | (refine Below.trans ?_ (Below.mono hb4 (by first | omega | (simp; done) | (simp; omega)))) | (refine Below.trans ?_ (Below.mono hb5 (by first | omega | (simp; done) | (simp; omega)))) | (refine Below.trans ?_ (Below.mono hb6 (by first | omega | (simp; done) | (simp; omega)))) | (refine Below.trans ?_ (Below.mono hb7 (by first | omega | (simp; done) | (simp; omega)))) | (refine Below.trans ?_ (Below.mono hb8 (by first | omega | (simp; done) | (simp; omega)))) | (refine Below.trans ?_ (Below.mono hb9 (by first | omega | (simp; done) | (simp; omega)))) | (refine Below.trans ?_ (Below.mono hb10 (by first | omega | (simp; done) | (simp; omega)))) | (refine Below.trans ?_ (Below.mono hb11 (by first | omega | (simp; done) | (simp; omega)))) | (refine Below.trans ?_ (Below.mono hb12 (by first | omega | (simp; done) | (simp; omega))))))⟩
    · go_enter Try.func158, Try.ntmps158
      go_wp2
      go_ret
      exact ⟨rfl, by with_reducible (repeat (first | exact Below.refl _ _ | assumption | (refine Below.setCell ?_ (by first | omega | (simp; done) | (simp; omega)) _) | (refine Below.alloc ?_ (by first | omega | (simp; done) | (simp; omega)) _) | (refine below_drewN ?_ _) | (refine Below.drew ?_) | (refine Below.trans ?_ (Below.mono hb (by first | omega | (simp; done) | (simp; omega)))) | (refine Below.trans ?_ (Below.mono hb1 (by first | omega | (simp; done) | (simp; omega)))) | (refine Below.trans ?_ (Below.mono hb2 (by first | omega | (simp; done) | (simp; omega)))) | (refine Below.trans ?_ (Below.mono hb3 (by first | omega | (simp; done) | (simp; omega)))) | (refine Below.trans ?_ (Below.mono hb4 (by first | omega | (simp; done) | (simp; omega)))) | (refine Below.trans ?_ (Below.mono hb5 (by first | omega | (simp; done) | (simp; omega)))) | (refine Below.trans ?_ (Below.mono hb6 (by first | omega | (simp; done) | (simp; omega)))) | (refine Below.trans ?_ (Below.mono hb7 (by first | omega | (simp; done) | (simp; omega)))) | (refine Below.trans ?_ (Below.mono hb8 (by first | omega | (simp; done) | (simp; omega)))) | (refine Below.trans ?_ (Below.mono hb9 (by first | omega | (simp; done) | (simp; omega)))) | (refine Below.trans ?_ (Below.mono hb10 (by first | omega | (simp; done) | (simp; omega)))) | (refine Below.trans ?_ (Below.mono hb11 (by first | omega | (simp; done) | (simp; omega)))) | (refine Below.trans ?_ (Below.mono hb12 (by first | omega | (simp; done) | (simp; omega))))))⟩
  · go_enter Try.func158, Try.ntmps158
    go_wp2
    go_ret
    exact ⟨rfl, by with_reducible (repeat (first | exact Below.refl _ _ | assumption | (refine Below.setCell ?_ (by first | omega | (simp; done) | (simp; omega)) _) | (refine Below.alloc ?_ (by first | omega | (simp; done) | (simp; omega)) _) | (refine below_drewN ?_ _) | (refine Below.drew ?_) | (refine Below.trans ?_ (Below.mono hb (by first | omega | (simp; done) | (simp; omega)))) | (refine Below.trans ?_ (Below.mono hb1 (by first | omega | (simp; done) | (simp; omega)))) | (refine Below.trans ?_ (Below.mono hb2 (by first | omega | (simp; done) | (simp; omega)))) | (refine Below.trans ?_ (Below.mono hb3 (by first | omega | (simp; done) | (simp; omega)))) | (refine Below.trans ?_ (Below.mono hb4 (by first | omega | (simp; done) | (simp; omega)))) | (refine Below.trans ?_ (Below.mono hb5 (by first | omega | (simp; done) | (simp; omega)))) | (refine Below.trans ?_ (Below.mono hb6 (by first | omega | (simp; done) | (simp; omega)))) | (refine Below.trans ?_ (Below.mono hb7 (by first | omega | (simp; done) | (simp; omega)))) | (refine Below.trans ?_ (Below.mono hb8 (by first | omega | (simp; done) | (simp; omega)))) | (refine Below.trans ?_ (Below.mono hb9 (by first | omega | (simp; done) | (simp; omega)))) | (refine Below.trans ?_ (Below.mono hb10 (by first | omega | (simp; done) | (simp; omega)))) | (refine Below.trans ?_ (Below.mono hb11 (by first | omega | (simp; done) | (simp; omega)))) | (refine Below.trans ?_ (Below.mono hb12 (by first | omega | (simp; done) | (simp; omega))))))⟩
theorem Pl.good {P : Pl} (h : P.ok) : goodSize P.rows P.cols = true := decide_eq_true ⟨h.r1, h.r2, h.c1, h.c2, h.n2⟩
theorem rCells_P {P : Pl} (h : P.ok) (w : World) :
    Calls Try.prog 158 #[.agg #[.int .i64 P.rows, .int .i64 P.cols]] w fun e w' => e = .returned (.int .i64 (P.cells.length : Int)) ∧ Below w.heap.size w w' := by
  rw [h.len]
  exact rCells_in _ _ _ (Pl.good h)

set_option maxRecDepth 100000 in
theorem rMove_P {P : Pl} (h : P.ok) (a d : Int) (w : World) :
    Calls Try.prog 94 #[.agg #[.int .i64 P.rows, .int .i64 P.cols], .int .i64 a, .int .i64 d] w fun e w' => e = .returned (.int .i64 ((a + d) % (P.cells.length : Int))) ∧ Below w.heap.size w w' := by
  have hn := Pl.N_pos h
  have hm := Pl.N_le h
  have ha := tmod_lt' (a := a) (n := (P.cells.length : Int)) (by omega)
  have hd := tmod_lt' (a := d) (n := (P.cells.length : Int)) (by omega)
  have hne : ((P.cells.length : Int) == 0) = false := beq_eq_false_iff_ne.2 (by omega)
  have hw : IntKind.i64.wrap (a.tmod (P.cells.length : Int) + d.tmod (P.cells.length : Int)) = a.tmod (P.cells.length : Int) + d.tmod (P.cells.length : Int) := IntWalk.i64_in _ (by omega)
  have E : Hid ((a.tmod (P.cells.length : Int) + d.tmod (P.cells.length : Int)) % (P.cells.length : Int) = (a + d) % (P.cells.length : Int)) := by
    refine Lib.hid ?_
    have e1 := Int.mul_tdiv_add_tmod a (P.cells.length : Int)
    have e2 := Int.mul_tdiv_add_tmod d (P.cells.length : Int)
    have : a + d = (a.tmod (P.cells.length : Int) + d.tmod (P.cells.length : Int)) + (P.cells.length : Int) * (a.tdiv (P.cells.length : Int) + d.tdiv (P.cells.length : Int)) := by rw [Int.mul_add]; omega
    rw [this, Int.add_mul_emod_self_left]
  go_enter Try.func94, Try.ntmps94
  go_wp2_with fail
  refine (rCells_P h _).mono ?_
  rintro e w1 ⟨rfl, hb1⟩
  have hB1 : Below w.heap.size w w1 := by with_reducible (repeat (first | exact Below.refl _ _ | assumption | (refine Below.setCell ?_ (by first | omega | (simp; done) | (simp; omega)) _) | (refine Below.alloc ?_ (by first | omega | (simp; done) | (simp; omega)) _) | (refine below_drewN ?_ _) | (refine Below.drew ?_) | (refine Below.trans ?_ (Below.mono hb (by first | omega | (simp; done) | (simp; omega)))) | (refine Below.trans ?_ (Below.mono hb1 (by first | omega | (simp; done) | (simp; omega)))) | (refine Below.trans ?_ (Below.mono hb2 (by first | omega | (simp; done) | (simp; omega)))) | (refine Below.trans ?_ (Below.mono hb3 (by first | omega | (simp; done) | (simp; omega)))) | (refine Below.trans ?_ (Below.mono hb4 (by first | omega | (simp; done) | (simp; omega)))) | (refine Below.trans ?_ (Below.mono hb5 (by first | omega | (simp; done) | (simp; omega)))) | (refine Below.trans ?_ (Below.mono hb6 (by first | omega | (simp; done) | (simp; omega)))) | (refine Below.trans ?_ (Below.mono hb7 (by first | omega | (simp; done) | (simp; omega)))) | (refine Below.trans ?_ (Below.mono hb8 (by first | omega | (simp; done) | (simp; omega)))) | (refine Below.trans ?_ (Below.mono hb9 (by first | omega | (simp; done) | (simp; omega)))) | (refine Below.trans ?_ (Below.mono hb10 (by first | omega | (simp; done) | (simp; omega)))) | (refine Below.trans ?_ (Below.mono hb11 (by first | omega | (simp; done) | (simp; omega)))) | (refine Below.trans ?_ (Below.mono hb12 (by first | omega | (simp; done) | (simp; omega))))))
  clear hb1
  go_wp2
  go_quiet (fail)
  go_wp2
  clear hw
  go_loopw [1] (fun i wr => ∃ x : Int, i = .int .i64 x ∧ -(2 * (P.cells.length : Int)) < x ∧ x < 2 * (P.cells.length : Int) ∧ x % (P.cells.length : Int) = (a + d) % (P.cells.length : Int) ∧ Below w.heap.size w wr) (fun i _ => (-intOf i).toNat)
  case atStart => exact ⟨_, rfl, by omega, by omega, E.out, by with_reducible (repeat (first | exact Below.refl _ _ | assumption | (refine Below.setCell ?_ (by first | omega | (simp; done) | (simp; omega)) _) | (refine Below.alloc ?_ (by first | omega | (simp; done) | (simp; omega)) _) | (refine below_drewN ?_ _) | (refine Below.drew ?_) | (refine Below.trans ?_ (Below.mono hb (by first | omega | (simp; done) | (simp; omega)))) | (refine Below.trans ?_ (Below.mono hb1 (by first | omega | (simp; done) | (simp; omega)))) | (refine Below.trans ?_ (Below.mono hb2 (by first | omega | (simp; done) | (simp; omega)))) | (refine Below.trans ?_ (Below.mono hb3 (by first | omega | (simp; done) | (simp; omega)))) | (refine Below.trans ?_ (Below.mono hb4 (by first | omega | (simp; done) | (simp; omega)))) | (refine Below.trans ?_ (Below.mono hb5 (by first | omega | (simp; done) | (simp; omega)))) | (refine Below.trans ?_ (Below.mono hb6 (by first | omega | (simp; done) | (simp; omega)))) | (refine Below.trans ?_ (Below.mono hb7 (by first | omega | (simp; done) | (simp; omega)))) | (refine Below.trans ?_ (Below.mono hb8 (by first | omega | (simp; done) | (simp; omega)))) | (refine Below.trans ?_ (Below.mono hb9 (by first | omega | (simp; done) | (simp; omega)))) | (refine Below.trans ?_ (Below.mono hb10 (by first | omega | (simp; done) | (simp; omega)))) | (refine Below.trans ?_ (Below.mono hb11 (by first | omega | (simp; done) | (simp; omega)))) | (refine Below.trans ?_ (Below.mono hb12 (by first | omega | (simp; done) | (simp; omega))))))⟩
  case round =>
    obtain ⟨x, rfl, l1, l2, l3, hB⟩ := hrel
    have L3 := Lib.hid l3
    clear l3
    by_cases hx : x < 0
    · go_wp2
      go_roundw
      case rel => exact ⟨x + (P.cells.length : Int), by go_num, by omega, by omega, by rw [Int.add_emod_right, L3.out], hB⟩
      case measure => simp [intOf]; omega
    · go_wp2
      go_ret
      exact ⟨by rw [← L3.out]; rfl, hB⟩
end Go.Proofs.Ytbkddgeocmkegaa

/-! How long fields are, and whose a place is: plain laws. -/
namespace Go.Proofs.Ytbkddgeocmkegaa

theorem Pl.starts_lt (P : Pl) {a b : Nat} (h : a < b) (hb : b < P.starts.length) : P.starts[a] < P.starts[b] := by
  have hp : P.starts.Pairwise (· < ·) := List.Pairwise.filter _ List.pairwise_lt_range
  exact List.pairwise_iff_getElem.1 hp a b (by omega) hb h
theorem Pl.starts_le (P : Pl) {a b : Nat} (h : a ≤ b) (hb : b < P.starts.length) : P.starts[a] ≤ P.starts[b] := by
  rcases Nat.lt_or_ge a b with h1 | h1
  · exact Nat.le_of_lt (P.starts_lt h1 hb)
  · have : a = b := by omega
    subst this; exact Nat.le_refl _
theorem Pl.starts_ix (P : Pl) {m : Nat} (hm : m < P.cells.length) (hs : P.isSt m = true) : ∃ (c : Nat) (hc : c < P.starts.length), P.starts[c] = m := by
  have := P.starts_at hm hs
  obtain ⟨hc, e⟩ := List.getElem?_eq_some_iff.1 this
  exact ⟨_, hc, e⟩
/-- Between one attribute and the next there is none. -/
theorem Pl.starts_gap (P : Pl) {i m : Nat} (hi : i < P.starts.length) (h1 : P.starts[i] < m) (hm : m < P.cells.length) (h2 : ∀ (h : i + 1 < P.starts.length), m < P.starts[i + 1]) : P.isSt m = false := by
  cases hs : P.isSt m
  · rfl
  · obtain ⟨c, hc, e⟩ := P.starts_ix hm hs
    exfalso
    have c1 : i < c := by
      rcases Nat.lt_or_ge i c with h | h
      · exact h
      · have := P.starts_le h hi; omega
    have := P.starts_le (show i + 1 ≤ c by omega) hc
    have := h2 (by omega)
    omega
theorem Pl.starts_first (P : Pl) {m : Nat} (h0 : 0 < P.starts.length) (h1 : m < P.starts[0]) (hm : m < P.cells.length) : P.isSt m = false := by
  cases hs : P.isSt m
  · rfl
  · obtain ⟨c, hc, e⟩ := P.starts_ix hm hs
    have := P.starts_le (Nat.zero_le c) hc
    omega

theorem Pl.stp_one (P : Pl) (s i : Nat) : P.stp (((s : Int) + 1) % (P.cells.length : Int)) 1 i = P.isSt ((s + 1 + i) % P.cells.length) := by
  unfold Pl.stp Pl.isSt
  rw [Int.mul_one, Int.emod_add_emod]
  congr 2
  all_goals push_cast; rfl
theorem Pl.len_eq {P : Pl} (hok : P.ok) {s k : Nat} (hs : s < P.cells.length) (hk : k < P.cells.length) (hp : P.isSt ((s + 1 + k) % P.cells.length) = true) (hf : ∀ j, j < k → P.isSt ((s + 1 + j) % P.cells.length) = false) : (P.fld (s : Int)).len = (k : Int) := by
  have hn := Pl.N_pos hok
  have e : P.after (s : Int) = (((s + 1 + k) % P.cells.length : Nat) : Int) := by
    unfold Pl.after
    rw [if_pos ⟨by omega, by omega⟩]
    rw [Pl.look_some (k := k) (Int.emod_nonneg _ (by omega)) (Int.emod_lt_of_pos _ (by omega)) hk (by rw [Pl.stp_one]; exact hp) (fun j hj => by rw [Pl.stp_one]; exact hf j hj)]
    rw [Int.mul_one, Int.emod_add_emod]
    push_cast
    rfl
  unfold Pl.fld
  show (if P.after s - s - 1 < 0 then _ else _) = _
  rw [e]
  rcases Nat.lt_or_ge (s + 1 + k) P.cells.length with h | h
  · rw [Nat.mod_eq_of_lt h, if_neg (by omega)]; omega
  · have : (s + 1 + k) % P.cells.length = s + 1 + k - P.cells.length := by
      rw [Nat.mod_eq_sub_mod h, Nat.mod_eq_of_lt (by omega)]
    rw [this, if_pos (by omega)]; omega
theorem Pl.len_spec {P : Pl} (hok : P.ok) {s : Nat} (hs : s < P.cells.length) (hst : P.isSt s = true) : ∃ k, k < P.cells.length ∧ (P.fld (s : Int)).len = (k : Int) ∧ P.isSt ((s + 1 + k) % P.cells.length) = true ∧ ∀ j, j < k → P.isSt ((s + 1 + j) % P.cells.length) = false := by
  cases h : srch P.cells.length (fun j => P.isSt ((s + 1 + j) % P.cells.length)) with
  | some k =>
    obtain ⟨h1, h2, h3⟩ := srch_of_some h
    exact ⟨k, h1, Pl.len_eq hok hs h1 h2 h3, h2, h3⟩
  | none =>
    have := srch_of_none h (P.cells.length - 1) (by omega)
    rw [show s + 1 + (P.cells.length - 1) = s + P.cells.length by omega, Nat.add_mod_right, Nat.mod_eq_of_lt hs, hst] at this
    cases this
/-- As the document's list of attributes has it. -/
theorem Pl.ref_len {P : Pl} (hok : P.ok) {i : Nat} (hi : i < P.starts.length) : (P.fld (P.starts[i] : Int)).len = (if h : i + 1 < P.starts.length then (P.starts[i + 1] : Int) else (P.starts[0] : Int) + (P.cells.length : Int)) - (P.starts[i] : Int) - 1 := by
  have m := P.starts_mem (List.getElem_mem hi)
  split
  · rename_i h
    have m1 := P.starts_mem (List.getElem_mem h)
    have lt := P.starts_lt (show i < i + 1 by omega) h
    rw [Pl.len_eq hok (k := P.starts[i + 1] - P.starts[i] - 1) m.1 (by omega)]
    · omega
    · rw [show P.starts[i] + 1 + (P.starts[i + 1] - P.starts[i] - 1) = P.starts[i + 1] by omega, Nat.mod_eq_of_lt m1.1]; exact m1.2
    · intro j hj
      rw [Nat.mod_eq_of_lt (by omega)]
      exact P.starts_gap hi (by omega) (by omega) (fun _ => by omega)
  · rename_i h
    have le := P.starts_le (Nat.zero_le i) hi
    have m0 := P.starts_mem (List.getElem_mem (show 0 < P.starts.length by omega))
    rw [Pl.len_eq hok (k := P.starts[0] + P.cells.length - P.starts[i] - 1) m.1 (by omega)]
    · omega
    · rw [show P.starts[i] + 1 + (P.starts[0] + P.cells.length - P.starts[i] - 1) = P.starts[0] + P.cells.length by omega, Nat.add_mod_right, Nat.mod_eq_of_lt m0.1]; exact m0.2
    · intro j hj
      rcases Nat.lt_or_ge (P.starts[i] + 1 + j) P.cells.length with g | g
      · rw [Nat.mod_eq_of_lt g]
        exact P.starts_gap hi (by omega) g (fun h' => absurd h' h)
      · rw [Nat.mod_eq_sub_mod g, Nat.mod_eq_of_lt (by omega)]
        exact P.starts_first (by omega) (by omega) (by omega)

/-- The places of a field: its attribute's, and those behind it. -/
def Pl.ofs (P : Pl) (s : Nat) (at' : Int) : Prop := ∃ i : Nat, (i : Int) ≤ (P.fld (s : Int)).len ∧ at' = (((s + i) % P.cells.length : Nat) : Int)
theorem back_nat (a j n : Nat) (hj : j ≤ a + n) : (((a : Int) + (j : Int) * -1) % (n : Int)) = (((a + n - j) % n : Nat) : Int) := by
  rw [Int.natCast_emod, Int.natCast_sub hj]
  push_cast
  rw [show (a : Int) + (n : Int) - (j : Int) = (a : Int) + (j : Int) * -1 + (n : Int) by omega, Int.add_emod_right]
theorem Pl.stp_back {P : Pl} (hok : P.ok) (a j : Nat) (hj : j ≤ a + P.cells.length) : P.stp (a : Int) (-1) j = P.isSt ((a + P.cells.length - j) % P.cells.length) := by
  have hn := Pl.N_pos hok
  unfold Pl.stp Pl.isSt
  rw [back_nat _ _ _ hj]
theorem Pl.before_of {P : Pl} (hok : P.ok) {s : Nat} (hs : s < P.cells.length) (hst : P.isSt s = true) {at' : Int} (h : P.ofs s at') : P.before at' = (s : Int) := by
  have hn := Pl.N_pos hok
  obtain ⟨i, hi, rfl⟩ := h
  obtain ⟨k, hk, e, -, hf⟩ := Pl.len_spec hok hs hst
  rw [e] at hi
  have hik : i ≤ k := by omega
  unfold Pl.before
  have hlt : (s + i) % P.cells.length < P.cells.length := Nat.mod_lt _ hn
  have key : ∀ j, j ≤ i → ((s + i) % P.cells.length + P.cells.length - j) % P.cells.length = (s + (i - j)) % P.cells.length := by
    intro j hj
    rcases Nat.lt_or_ge (s + i) P.cells.length with g | g
    · rw [Nat.mod_eq_of_lt g, show s + i + P.cells.length - j = s + (i - j) + P.cells.length by omega, Nat.add_mod_right]
    · have : (s + i) % P.cells.length = s + i - P.cells.length := by rw [Nat.mod_eq_sub_mod g, Nat.mod_eq_of_lt (by omega)]
      rw [this, show s + i - P.cells.length + P.cells.length - j = s + (i - j) by omega]
  rw [Pl.look_some (k := i) (by omega) (by omega) (by omega)]
  · have := key i (Nat.le_refl _)
    rw [Nat.sub_self, Nat.add_zero, Nat.mod_eq_of_lt hs] at this
    rw [back_nat _ _ _ (by omega), this]
  · rw [Pl.stp_back hok _ _ (by omega), key i (Nat.le_refl _), Nat.sub_self, Nat.add_zero, Nat.mod_eq_of_lt hs]; exact hst
  · intro j hj
    rw [Pl.stp_back hok _ _ (by omega), key j (by omega), show s + (i - j) = s + 1 + (i - j - 1) by omega]
    exact hf _ (by omega)
theorem Pl.ofs_of {P : Pl} (hok : P.ok) {s : Nat} {at' : Int} (h : P.before at' = (s : Int)) : s < P.cells.length ∧ P.isSt s = true ∧ P.ofs s at' := by
  have hn := Pl.N_pos hok
  unfold Pl.before at h
  by_cases hr : 0 ≤ at' ∧ at' < (P.cells.length : Int)
  · obtain ⟨a, rfl⟩ : ∃ a : Nat, at' = (a : Int) := ⟨at'.toNat, by omega⟩
    have ha : a < P.cells.length := by omega
    unfold Pl.look at h
    rw [if_pos hr] at h
    split at h
    · rename_i k hk
      obtain ⟨h1, h2, h3⟩ := srch_of_some hk
      rw [back_nat _ _ _ (by omega)] at h
      have hs : s = (a + P.cells.length - k) % P.cells.length := by omega
      have hslt : s < P.cells.length := hs ▸ Nat.mod_lt _ hn
      rw [Pl.stp_back hok _ _ (by omega), ← hs] at h2
      have ea : (s + k) % P.cells.length = a := by
        rw [hs]
        rcases Nat.lt_or_ge a k with g | g
        · rw [Nat.mod_eq_of_lt (show a + P.cells.length - k < P.cells.length by omega), show a + P.cells.length - k + k = a + P.cells.length by omega, Nat.add_mod_right, Nat.mod_eq_of_lt ha]
        · rw [show a + P.cells.length - k = a - k + P.cells.length by omega, Nat.add_mod_right, Nat.mod_eq_of_lt (show a - k < P.cells.length by omega), show a - k + k = a by omega, Nat.mod_eq_of_lt ha]
      refine ⟨hslt, h2, k, ?_, by rw [ea]⟩
      obtain ⟨l, hl, e, hp, -⟩ := Pl.len_spec hok hslt h2
      rw [e]
      rcases Nat.lt_or_ge l k with g | g
      · exfalso
        have := h3 (k - 1 - l) (by omega)
        rw [Pl.stp_back hok _ _ (by omega)] at this
        rw [show (a + P.cells.length - (k - 1 - l)) % P.cells.length = (s + 1 + l) % P.cells.length from ?_] at this
        · rw [hp] at this; cases this
        · rw [← ea]
          rcases Nat.lt_or_ge (s + k) P.cells.length with g2 | g2
          · rw [Nat.mod_eq_of_lt g2, show s + k + P.cells.length - (k - 1 - l) = s + 1 + l + P.cells.length by omega, Nat.add_mod_right]
          · have : (s + k) % P.cells.length = s + k - P.cells.length := by rw [Nat.mod_eq_sub_mod g2, Nat.mod_eq_of_lt (by omega)]
            rw [this, show s + k - P.cells.length + P.cells.length - (k - 1 - l) = s + 1 + l by omega]
      · omega
    · omega
  · unfold Pl.look at h
    rw [if_neg hr] at h
    omega
theorem Pl.before_none {P : Pl} (hok : P.ok) {at' : Int} (h : ∀ s, s < P.cells.length → P.isSt s = true → ¬ P.ofs s at') : ¬ 0 ≤ P.before at' := by
  intro h0
  obtain ⟨s, hs⟩ : ∃ s : Nat, P.before at' = (s : Int) := ⟨(P.before at').toNat, by omega⟩
  obtain ⟨a, b, c⟩ := Pl.ofs_of hok hs
  exact h s a b c
end Go.Proofs.Ytbkddgeocmkegaa
