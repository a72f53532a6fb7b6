/- Lemmas on the way to this seat's statements; they bear no condition of their own. -/
import Derived.Test.YtbkddgeocmkegaaG8
import Derived.Stop.RegionWithIn
import Derived.Sort.CutIn
import Derived.Lib.MinMax
namespace Go.Proofs.Ytbkddgeocmkegaa
open Go.RowKit Go.Shelf
set_option linter.unusedSimpArgs false
set_option linter.unusedVariables false
set_option maxHeartbeats 2000000
attribute [local go_sem ↓] run_start run_byte run_cols
attribute [local go_sem] Oper.semAt_some

/-- The places of a field's cells. -/
def placesN (n : Int) (f : Fld) : Nat := if 0 ≤ f.start ∧ f.start < n then (min (max f.len 0) n).toNat else 0
def places (n : Int) (f : Fld) : List Int := List.map (fun (i : Nat) => (f.start + ((i : Int) + 1)) % n) (List.range (placesN n f))
theorem places_len (n : Int) (f : Fld) : (places n f).length = placesN n f := by simp [places]
theorem places_get (n : Int) (f : Fld) (k : Nat) (h : k < (places n f).length) : (places n f)[k] = (f.start + ((k : Int) + 1)) % n := by simp [places]

/-- In W lies a plane of P0's size. -/
def SizeOf (P0 : Pl) (g b cap : Nat) (W : World) : Prop := ∃ P, PL W g b cap P ∧ P.rows = P0.rows ∧ P.cols = P0.cols ∧ P.cells.length = P0.cells.length
theorem SizeOf.below {P0 : Pl} {g b cap : Nat} {W W' : World} (h : SizeOf P0 g b cap W) (hb : Below W.heap.size W W') : SizeOf P0 g b cap W' :=
  let ⟨P, hP, h⟩ := h; ⟨P, hP.below hb, h⟩
theorem Len_of {P0 : Pl} {g b cap : Nat} {w : World} (h : SizeOf P0 g b cap w) :
    Calls Try.prog 25 #[.pointer (some ⟨g, 0, none⟩)] w fun e w' => e = .returned (.int .i64 (P0.cells.length : Int)) ∧ Below w.heap.size w w' := by
  obtain ⟨P, hP, _, _, hl⟩ := h
  rw [← hl]
  exact Len_any hP
theorem Size_of {P0 : Pl} {g b cap : Nat} {w : World} (h : SizeOf P0 g b cap w) :
    Calls Try.prog 101 #[.pointer (some ⟨g, 0, none⟩)] w fun e w' => e = .returned (.agg #[.int .i64 P0.rows, .int .i64 P0.cols]) ∧ Below w.heap.size w w' := by
  obtain ⟨P, hP, hr, hc, _⟩ := h
  rw [← hr, ← hc]
  exact Size_any hP

structure RdP (B1 B2 g b cap : Nat) (P0 : Pl) (f : Fld) (k : Nat) (W : World) : Prop where
  c0 : W.cell? ⟨B1, 0, none⟩ = some (.int .i64 f.start)
  c1 : W.cell? ⟨B1, 1, none⟩ = some (.int .i64 f.len)
  c2 : W.cell? ⟨B2, 0, none⟩ = some (.pointer (some ⟨g, 0, none⟩))
  pl : SizeOf P0 g b cap W

/-- A round has gone on, or has said that no more is wanted. -/
def YOut (J Jx : World → Prop) (t : Value) (w' : World) : Prop := ∃ bb : Bool, t = .bool (!bb) ∧ ((bb = true ∧ J w') ∨ (bb = false ∧ Jx w'))

set_option maxRecDepth 100000 in
theorem Places_seq {P0 : Pl} (hok : P0.ok) (B1 B2 g b cap : Nat) (f : Fld) (hs0 : 0 ≤ f.start) (hs1 : f.start < (P0.cells.length : Int)) :
    SeqL Try.prog 165 #[.pointer (some ⟨B1, 0, none⟩), .pointer (some ⟨B2, 0, none⟩)] ((places (P0.cells.length : Int) f).map fun x => #[.int .i64 x]) (RdP B1 B2 g b cap P0 f) := by
  intro l J Jx W hR hJ hJx hY h0
  have hm := Pl.N_le hok
  have hn := Pl.N_pos hok
  obtain ⟨c0, c1, c2, hP⟩ := hR 0 W h0
  have HN := Lib.hid (show (placesN (P0.cells.length : Int) f : Int) = min (max f.len 0) (P0.cells.length : Int) by unfold placesN; rw [if_pos ⟨hs0, hs1⟩]; omega)
  have hd : decide (f.start < 0) = false := by simpa using hs0
  refine callsIn_of_wp Try.func165 rfl trivial ?_ rfl
  simp only [Try.ntmps165, List.size_toArray, List.length_cons, List.length_nil, Nat.reduceAdd, Nat.reduceSub, Array.replicate_succ, Array.replicate_zero, List.push_toArray, List.append_toArray, List.nil_append, List.cons_append]
  gi_wp2_with fail
  gi_cut [14] from 5 (fun t w' => t = .bool (decide ((P0.cells.length : Int) ≤ f.start)) ∧ J 0 w')
  case first =>
    gi_region_with (refine ⟨trivial, rfl, CallsIn.mono (callsIn_wide.2 (Len_of (hP.below (by with_reducible (repeat (first | exact Below.refl _ _ | assumption | (refine Below.setCell ?_ (by first | omega | (simp; done) | (simp; omega)) _) | (refine Below.alloc ?_ (by first | omega | (simp; done) | (simp; omega)) _) | (refine below_drewN ?_ _) | (refine Below.drew ?_) | (refine Below.trans ?_ (Below.mono hb (by first | omega | (simp; done) | (simp; omega)))) | (refine Below.trans ?_ (Below.mono hb1 (by first | omega | (simp; done) | (simp; omega)))) | (refine Below.trans ?_ (Below.mono hb2 (by first | omega | (simp; done) | (simp; omega)))) | (refine Below.trans ?_ (Below.mono hb3 (by first | omega | (simp; done) | (simp; omega)))) | (refine Below.trans ?_ (Below.mono hb4 (by first | omega | (simp; done) | (simp; omega)))) | (refine Below.trans ?_ (Below.mono hb5 (by first | omega | (simp; done) | (simp; omega)))) | (refine Below.trans ?_ (Below.mono hb6 (by first | omega | (simp; done) | (simp; omega)))) | (refine Below.trans ?_ (Below.mono hb7 (by first | omega | (simp; done) | (simp; omega)))) | (refine Below.trans ?_ (Below.mono hb8 (by first | omega | (simp; done) | (simp; omega)))) | (refine Below.trans ?_ (Below.mono hb9 (by first | omega | (simp; done) | (simp; omega)))) | (refine Below.trans ?_ (Below.mono hb10 (by first | omega | (simp; done) | (simp; omega)))) | (refine Below.trans ?_ (Below.mono hb11 (by first | omega | (simp; done) | (simp; omega)))) | (refine Below.trans ?_ (Below.mono hb12 (by first | omega | (simp; done) | (simp; omega)))))))))) ?_⟩; rintro e w1 ⟨rfl, hb1⟩; have hJ1 : J 0 w1 := hJ 0 W w1 h0 (by with_reducible (repeat (first | exact Below.refl _ _ | assumption | (refine Below.setCell ?_ (by first | omega | (simp; done) | (simp; omega)) _) | (refine Below.alloc ?_ (by first | omega | (simp; done) | (simp; omega)) _) | (refine below_drewN ?_ _) | (refine Below.drew ?_) | (refine Below.trans ?_ (Below.mono hb (by first | omega | (simp; done) | (simp; omega)))) | (refine Below.trans ?_ (Below.mono hb1 (by first | omega | (simp; done) | (simp; omega)))) | (refine Below.trans ?_ (Below.mono hb2 (by first | omega | (simp; done) | (simp; omega)))) | (refine Below.trans ?_ (Below.mono hb3 (by first | omega | (simp; done) | (simp; omega)))) | (refine Below.trans ?_ (Below.mono hb4 (by first | omega | (simp; done) | (simp; omega)))) | (refine Below.trans ?_ (Below.mono hb5 (by first | omega | (simp; done) | (simp; omega)))) | (refine Below.trans ?_ (Below.mono hb6 (by first | omega | (simp; done) | (simp; omega)))) | (refine Below.trans ?_ (Below.mono hb7 (by first | omega | (simp; done) | (simp; omega)))) | (refine Below.trans ?_ (Below.mono hb8 (by first | omega | (simp; done) | (simp; omega)))) | (refine Below.trans ?_ (Below.mono hb9 (by first | omega | (simp; done) | (simp; omega)))) | (refine Below.trans ?_ (Below.mono hb10 (by first | omega | (simp; done) | (simp; omega)))) | (refine Below.trans ?_ (Below.mono hb11 (by first | omega | (simp; done) | (simp; omega)))) | (refine Below.trans ?_ (Below.mono hb12 (by first | omega | (simp; done) | (simp; omega))))))); have q0 := (hR 0 w1 hJ1).c0; have q1 := (hR 0 w1 hJ1).c1; have q2 := (hR 0 w1 hJ1).c2)
    all_goals (gi_wp2; gi_meet; case rel => exact ⟨rfl, by assumption⟩)
  case rest =>
    obtain ⟨rfl, hJ1⟩ := hcut
    clear c0 c1 c2 hP
    obtain ⟨c0, c1, c2, hP⟩ := hR 0 _ hJ1
    have hd1 : decide ((P0.cells.length : Int) ≤ f.start) = false := by simpa using hs1
    gi_wp2_with fail
    gi_cut [20, 21] from 5 (fun t u w' => t = .int .i64 (placesN (P0.cells.length : Int) f : Int) ∧ u = .int .i64 0 ∧ J 0 w')
    case first =>
      gi_region_with (refine ⟨trivial, rfl, CallsIn.mono (callsIn_wide.2 (Len_of (hP.below (by with_reducible (repeat (first | exact Below.refl _ _ | assumption | (refine Below.setCell ?_ (by first | omega | (simp; done) | (simp; omega)) _) | (refine Below.alloc ?_ (by first | omega | (simp; done) | (simp; omega)) _) | (refine below_drewN ?_ _) | (refine Below.drew ?_) | (refine Below.trans ?_ (Below.mono hb (by first | omega | (simp; done) | (simp; omega)))) | (refine Below.trans ?_ (Below.mono hb1 (by first | omega | (simp; done) | (simp; omega)))) | (refine Below.trans ?_ (Below.mono hb2 (by first | omega | (simp; done) | (simp; omega)))) | (refine Below.trans ?_ (Below.mono hb3 (by first | omega | (simp; done) | (simp; omega)))) | (refine Below.trans ?_ (Below.mono hb4 (by first | omega | (simp; done) | (simp; omega)))) | (refine Below.trans ?_ (Below.mono hb5 (by first | omega | (simp; done) | (simp; omega)))) | (refine Below.trans ?_ (Below.mono hb6 (by first | omega | (simp; done) | (simp; omega)))) | (refine Below.trans ?_ (Below.mono hb7 (by first | omega | (simp; done) | (simp; omega)))) | (refine Below.trans ?_ (Below.mono hb8 (by first | omega | (simp; done) | (simp; omega)))) | (refine Below.trans ?_ (Below.mono hb9 (by first | omega | (simp; done) | (simp; omega)))) | (refine Below.trans ?_ (Below.mono hb10 (by first | omega | (simp; done) | (simp; omega)))) | (refine Below.trans ?_ (Below.mono hb11 (by first | omega | (simp; done) | (simp; omega)))) | (refine Below.trans ?_ (Below.mono hb12 (by first | omega | (simp; done) | (simp; omega)))))))))) ?_⟩; rintro e w1 ⟨rfl, hb1⟩; have hJ1 : J 0 w1 := hJ 0 _ w1 hJ1 (by with_reducible (repeat (first | exact Below.refl _ _ | assumption | (refine Below.setCell ?_ (by first | omega | (simp; done) | (simp; omega)) _) | (refine Below.alloc ?_ (by first | omega | (simp; done) | (simp; omega)) _) | (refine below_drewN ?_ _) | (refine Below.drew ?_) | (refine Below.trans ?_ (Below.mono hb (by first | omega | (simp; done) | (simp; omega)))) | (refine Below.trans ?_ (Below.mono hb1 (by first | omega | (simp; done) | (simp; omega)))) | (refine Below.trans ?_ (Below.mono hb2 (by first | omega | (simp; done) | (simp; omega)))) | (refine Below.trans ?_ (Below.mono hb3 (by first | omega | (simp; done) | (simp; omega)))) | (refine Below.trans ?_ (Below.mono hb4 (by first | omega | (simp; done) | (simp; omega)))) | (refine Below.trans ?_ (Below.mono hb5 (by first | omega | (simp; done) | (simp; omega)))) | (refine Below.trans ?_ (Below.mono hb6 (by first | omega | (simp; done) | (simp; omega)))) | (refine Below.trans ?_ (Below.mono hb7 (by first | omega | (simp; done) | (simp; omega)))) | (refine Below.trans ?_ (Below.mono hb8 (by first | omega | (simp; done) | (simp; omega)))) | (refine Below.trans ?_ (Below.mono hb9 (by first | omega | (simp; done) | (simp; omega)))) | (refine Below.trans ?_ (Below.mono hb10 (by first | omega | (simp; done) | (simp; omega)))) | (refine Below.trans ?_ (Below.mono hb11 (by first | omega | (simp; done) | (simp; omega)))) | (refine Below.trans ?_ (Below.mono hb12 (by first | omega | (simp; done) | (simp; omega))))))); have q0 := (hR 0 w1 hJ1).c0; have q1 := (hR 0 w1 hJ1).c1; have q2 := (hR 0 w1 hJ1).c2)
      all_goals (gi_wp2; gi_meet; case rel => exact ⟨by rw [HN.out], rfl, by assumption⟩)
    case rest =>
      obtain ⟨rfl, rfl, hJ2⟩ := hcut
      clear c0 c1 c2 hP hJ1
      gi_wp2
      gi_loopw [21] (fun i wr => ∃ k : Nat, k ≤ placesN (P0.cells.length : Int) f ∧ i = .int .i64 (k : Int) ∧ J k wr) (fun i _ => placesN (P0.cells.length : Int) f - (intOf i).toNat)
      case atStart => exact ⟨0, Nat.zero_le _, rfl, hJ2⟩
      case round =>
        obtain ⟨k, hk, rfl, hJk⟩ := hrel
        clear hJ2
        have hb9 : placesN (P0.cells.length : Int) f ≤ 4096 := by have := HN.out; omega
        by_cases hlt : k < placesN (P0.cells.length : Int) f
        · obtain ⟨c0, c1, c2, hP⟩ := hR k _ hJk
          have hYk : ∀ W1, J k W1 → YieldAt Fence.wide 0 Try.prog l #[.int .i64 ((f.start + ((k : Int) + 1)) % (P0.cells.length : Int))] W1 fun e W' => (e = .returned (.bool true) ∧ J (k + 1) W') ∨ (e = .returned (.bool false) ∧ Jx (k + 1) W') := by
            intro W1 h1
            have := hY k W1 (by simpa [places] using hlt) h1
            simpa only [List.getElem_map, places_get] using this
          have hw : IntKind.i64.wrap ((k : Int) + 1) = (k : Int) + 1 := IntWalk.i64_in _ (by omega)
          clear hY
          gi_wp2_with fail
          gi_cut [33] from 22 (fun t w' => YOut (J (k + 1)) (Jx (k + 1)) t w')
          case first =>
            gi_region_with (first
              | (refine ⟨trivial, rfl, ?_⟩; gi_at_call 101; refine CallsIn.mono (callsIn_wide.2 (Size_of (hP.below (by with_reducible (repeat (first | exact Below.refl _ _ | assumption | (refine Below.setCell ?_ (by first | omega | (simp; done) | (simp; omega)) _) | (refine Below.alloc ?_ (by first | omega | (simp; done) | (simp; omega)) _) | (refine below_drewN ?_ _) | (refine Below.drew ?_) | (refine Below.trans ?_ (Below.mono hb (by first | omega | (simp; done) | (simp; omega)))) | (refine Below.trans ?_ (Below.mono hb1 (by first | omega | (simp; done) | (simp; omega)))) | (refine Below.trans ?_ (Below.mono hb2 (by first | omega | (simp; done) | (simp; omega)))) | (refine Below.trans ?_ (Below.mono hb3 (by first | omega | (simp; done) | (simp; omega)))) | (refine Below.trans ?_ (Below.mono hb4 (by first | omega | (simp; done) | (simp; omega)))) | (refine Below.trans ?_ (Below.mono hb5 (by first | omega | (simp; done) | (simp; omega)))) | (refine Below.trans ?_ (Below.mono hb6 (by first | omega | (simp; done) | (simp; omega)))) | (refine Below.trans ?_ (Below.mono hb7 (by first | omega | (simp; done) | (simp; omega)))) | (refine Below.trans ?_ (Below.mono hb8 (by first | omega | (simp; done) | (simp; omega)))) | (refine Below.trans ?_ (Below.mono hb9 (by first | omega | (simp; done) | (simp; omega)))) | (refine Below.trans ?_ (Below.mono hb10 (by first | omega | (simp; done) | (simp; omega)))) | (refine Below.trans ?_ (Below.mono hb11 (by first | omega | (simp; done) | (simp; omega)))) | (refine Below.trans ?_ (Below.mono hb12 (by first | omega | (simp; done) | (simp; omega)))))))))) ?_; rintro e w1 ⟨rfl, hb1⟩; have hJ1 := hJ k _ w1 hJk (by with_reducible (repeat (first | exact Below.refl _ _ | assumption | (refine Below.setCell ?_ (by first | omega | (simp; done) | (simp; omega)) _) | (refine Below.alloc ?_ (by first | omega | (simp; done) | (simp; omega)) _) | (refine below_drewN ?_ _) | (refine Below.drew ?_) | (refine Below.trans ?_ (Below.mono hb (by first | omega | (simp; done) | (simp; omega)))) | (refine Below.trans ?_ (Below.mono hb1 (by first | omega | (simp; done) | (simp; omega)))) | (refine Below.trans ?_ (Below.mono hb2 (by first | omega | (simp; done) | (simp; omega)))) | (refine Below.trans ?_ (Below.mono hb3 (by first | omega | (simp; done) | (simp; omega)))) | (refine Below.trans ?_ (Below.mono hb4 (by first | omega | (simp; done) | (simp; omega)))) | (refine Below.trans ?_ (Below.mono hb5 (by first | omega | (simp; done) | (simp; omega)))) | (refine Below.trans ?_ (Below.mono hb6 (by first | omega | (simp; done) | (simp; omega)))) | (refine Below.trans ?_ (Below.mono hb7 (by first | omega | (simp; done) | (simp; omega)))) | (refine Below.trans ?_ (Below.mono hb8 (by first | omega | (simp; done) | (simp; omega)))) | (refine Below.trans ?_ (Below.mono hb9 (by first | omega | (simp; done) | (simp; omega)))) | (refine Below.trans ?_ (Below.mono hb10 (by first | omega | (simp; done) | (simp; omega)))) | (refine Below.trans ?_ (Below.mono hb11 (by first | omega | (simp; done) | (simp; omega)))) | (refine Below.trans ?_ (Below.mono hb12 (by first | omega | (simp; done) | (simp; omega))))))); have q0 := (hR k w1 hJ1).c0; have q2 := (hR k w1 hJ1).c2)
              | (refine ⟨trivial, rfl, ?_⟩; gi_at_call 161; refine CallsIn.mono (callsIn_wide.2 (Move_P hok _ _ _)) ?_; rintro e w2 ⟨rfl, hb2⟩; have hJ2 := hJ k _ w2 hJ1 hb2; obtain ⟨fn, tmps, assign, body, hy, hRd⟩ := hYk w2 hJ2)
              | (refine ⟨rfl, hRd.mono ?_⟩; rintro e W3 hor; obtain ⟨bb, rfl, hq⟩ : ∃ bb : Bool, e = .returned (.bool bb) ∧ ((bb = true ∧ J (k + 1) W3) ∨ (bb = false ∧ Jx (k + 1) W3)) := by (rcases hor with ⟨rfl, h⟩ | ⟨rfl, h⟩; exact ⟨true, rfl, .inl ⟨rfl, h⟩⟩; exact ⟨false, rfl, .inr ⟨rfl, h⟩⟩)))
            all_goals (gi_wp2; gi_meet; case rel => exact ⟨bb, rfl, hq⟩)
          case rest =>
            obtain ⟨bb, rfl, ⟨rfl, hJ3⟩ | ⟨rfl, hJ3⟩⟩ := hcut
            · gi_wp2
              go_roundw
              case rel => exact ⟨k + 1, by omega, by go_num, hJ3⟩
              case measure => simp [intOf]; omega
            · gi_wp2
              refine bodyPost_ret (results_none rfl _ _ _) rfl ?_
              exact ⟨⟨_, rfl⟩, .inr ⟨k + 1, by simp only [List.length_map, places_len]; omega, hJ3⟩⟩
        · obtain rfl : k = placesN (P0.cells.length : Int) f := by omega
          gi_wp2
          go_end0
          exact ⟨⟨_, rfl⟩, .inl (by simp only [List.length_map, places_len]; exact hJk)⟩
end Go.Proofs.Ytbkddgeocmkegaa
