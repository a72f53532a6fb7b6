/- Lemmas on the way to this seat's statements; they bear no condition of their own. -/
import Derived.Test.YtbkddgeocmkegaaR2
import Derived.Test.YtbkddgeocmkegaaPf
import Derived.Deep.RegionHeld3
namespace Go.Proofs.Ytbkddgeocmkegaa
open Go.RowKit Go.Shelf
set_option linter.unusedSimpArgs false
set_option linter.unusedVariables false
set_option maxHeartbeats 2000000
attribute [local go_sem ↓] run_start run_byte run_cols

theorem owns_below {w w' : World} {B T k n : Nat} {v : Value} {xs : List Value} (h : w.ownsRow B T k v n xs) (hb : Below w.heap.size w w') : w'.ownsRow B T k v n xs := by
  obtain ⟨h0, hv | ⟨g3, c3, cur, hv, hge, hh, h1, h2, h3, htk⟩⟩ := h
  · exact ⟨h0, .inl hv⟩
  · exact ⟨h0, .inr ⟨g3, c3, cur, hv, hge, (hb.block g3 (lt_of_block hh)).trans hh, h1, h2, h3, htk⟩⟩
/-- Fields, as they lie in memory. -/
def Fld.vals (f : Fld) : List Value := [.int .i64 f.start, .int .i64 f.len, .int .u8 f.attr]
def fcl (fs : List Fld) : List Value := fs.flatMap Fld.vals
theorem fcl_len (fs : List Fld) : (fcl fs).length = 3 * fs.length := by
  induction fs with
  | nil => rfl
  | cons f fs ih => simp only [fcl, List.flatMap_cons, List.length_append, List.length_cons] at ih ⊢; rw [ih]; simp [Fld.vals]; omega
theorem fcl_append (a b : List Fld) : fcl (a ++ b) = fcl a ++ fcl b := by simp [fcl]
theorem fcl_at (fs : List Fld) (i : Nat) (h : i < fs.length) (k : Nat) (hk : k < 3) : (fcl fs)[i * 3 + k]? = (fs[i].vals)[k]? := by
  induction fs generalizing i with
  | nil => simp at h
  | cons f fs ih =>
    have e0 : fcl (f :: fs) = f.vals ++ fcl fs := by simp [fcl]
    rw [e0]
    cases i with
    | zero => simp only [Nat.zero_mul, Nat.zero_add, List.getElem_cons_zero]; rw [List.getElem?_append_left (by simp [Fld.vals]; omega)]
    | succ i =>
      rw [List.getElem?_append_right (by simp [Fld.vals]; omega)]
      have : (i + 1) * 3 + k - f.vals.length = i * 3 + k := by simp [Fld.vals]; omega
      rw [this]
      simpa using ih i (by simpa using h)
theorem fcl_get {w : World} {g : Nat} {fs : List Fld} {rest : List Value} {T : Nat} (h : w.heap[g]? = some (.cells (fcl fs ++ rest).toArray T (0, 0))) (i : Nat) (hi : i < fs.length) :
    w.cell? ⟨g, i * 3, none⟩ = some (.int .i64 fs[i].start) ∧ w.cell? ⟨g, i * 3 + 1, none⟩ = some (.int .i64 fs[i].len) ∧ w.cell? ⟨g, i * 3 + 2, none⟩ = some (.int .u8 fs[i].attr) := by
  have key : ∀ k, k < 3 → w.cell? ⟨g, i * 3 + k, none⟩ = (fs[i].vals)[k]? := by
    intro k hk
    simp only [World.cell?, h, Option.isSome_none, Bool.false_eq_true, if_false, List.getElem?_toArray]
    rw [List.getElem?_append_left (by rw [fcl_len]; omega), fcl_at _ _ hi _ hk]
  have k0 := key 0 (by omega)
  have k1 := key 1 (by omega)
  have k2 := key 2 (by omega)
  simp [Fld.vals] at k0 k1 k2
  exact ⟨k0, k1, k2⟩
def FldsPost (l : List Fld) (w : World) (e : Ending) (w' : World) : Prop :=
  ∃ (g cap : Nat) (rest : List Value), e = .returned (.slice (some ⟨g, 0, none⟩) l.length cap) ∧ w'.heap[g]? = some (.cells (fcl l ++ rest).toArray 153 (0, 0)) ∧ w.heap.size ≤ g ∧ Below w.heap.size w w'
theorem info_fld : (Try.prog.info? 153).map (fun i => (i.zero, i.size, i.bytes)) = some (some (.agg #[.int .i64 0, .int .i64 0, .int .u8 0]), 3, 24) := by kernel_rfl

theorem stl_starts (P : Pl) : P.stl P.cells.length = P.starts.map (fun (i : Nat) => (i : Int)) := rfl
theorem stl_get {P : Pl} {w : World} {g : Nat} {rest : List Value} (h : w.heap[g]? = some (.cells (ints (P.stl P.cells.length) ++ rest).toArray 3 (0, 0))) (i : Nat) (hi : i < P.starts.length) : w.cell? ⟨g, i, none⟩ = some (.int .i64 (P.starts[i] : Int)) := by
  have := ints_get h i (by rw [stl_starts]; simpa using hi)
  rw [this]
  simp [stl_starts]
theorem flds_take (P : Pl) (k : Nat) (hk : k < P.starts.length) : P.flds.take (k + 1) = P.flds.take k ++ [P.fld (P.starts[k] : Int)] := by
  rw [List.take_add_one]
  congr 1
  unfold Pl.flds
  rw [List.getElem?_map, List.getElem?_eq_getElem hk]
  rfl
theorem flds_len (P : Pl) : P.flds.length = P.starts.length := by simp [Pl.flds]
theorem starts_le_n (P : Pl) : P.starts.length ≤ P.cells.length := by
  have := P.cnt_le_self P.cells.length
  rwa [P.cnt_n] at this

theorem news_new (w : World) (cs : Array Value) (T B : Nat) (hB : w.heap.size = B) : ∀ (j : Nat) (u : Value), cs.toList[j]? = some u → (w.alloc (.cells cs T)).cell? ((⟨B, 0, none⟩ : Addr).add j) = some u := by
  subst hB
  exact World.news_of_block (World.alloc_heap_new w (.cells cs T))

set_option maxRecDepth 100000 in
theorem rAll_any {w : World} {b cap : Nat} {P : Pl} (h : RC w b P) :
    Calls Try.prog 98 #[.agg #[.int .i64 P.rows, .int .i64 P.cols, .slice (some ⟨b, 0, none⟩) P.cells.length cap, .int .i64 P.cursor]] w (FldsPost P.flds w) := by
  have hn := Pl.N_pos h.ok
  have hm := Pl.N_le h.ok
  have hbl := h.bl
  have hsn := starts_le_n P
  have HI := Lib.hid info_fld
  have hslen : (P.stl P.cells.length).length = P.starts.length := by rw [stl_starts]; simp
  go_enter Try.func98, Try.ntmps98
  go_wp2_with fail
  refine (rStarts_any (h.below (by with_reducible (repeat (first | exact Below.refl _ _ | assumption | (refine Below.setCell ?_ (by first | omega | (simp; done) | (simp; omega)) _) | (refine Below.alloc ?_ (by first | omega | (simp; done) | (simp; omega)) _) | (refine below_drewN ?_ _) | (refine Below.drew ?_) | (refine Below.trans ?_ (Below.mono hb (by first | omega | (simp; done) | (simp; omega)))) | (refine Below.trans ?_ (Below.mono hb1 (by first | omega | (simp; done) | (simp; omega)))) | (refine Below.trans ?_ (Below.mono hb2 (by first | omega | (simp; done) | (simp; omega)))) | (refine Below.trans ?_ (Below.mono hb3 (by first | omega | (simp; done) | (simp; omega)))) | (refine Below.trans ?_ (Below.mono hb4 (by first | omega | (simp; done) | (simp; omega)))) | (refine Below.trans ?_ (Below.mono hb5 (by first | omega | (simp; done) | (simp; omega)))) | (refine Below.trans ?_ (Below.mono hb6 (by first | omega | (simp; done) | (simp; omega)))) | (refine Below.trans ?_ (Below.mono hb7 (by first | omega | (simp; done) | (simp; omega)))) | (refine Below.trans ?_ (Below.mono hb8 (by first | omega | (simp; done) | (simp; omega)))) | (refine Below.trans ?_ (Below.mono hb9 (by first | omega | (simp; done) | (simp; omega)))) | (refine Below.trans ?_ (Below.mono hb10 (by first | omega | (simp; done) | (simp; omega)))) | (refine Below.trans ?_ (Below.mono hb11 (by first | omega | (simp; done) | (simp; omega)))) | (refine Below.trans ?_ (Below.mono hb12 (by first | omega | (simp; done) | (simp; omega))))))))).mono ?_
  rintro e w2 ⟨gs, cs, rs, rfl, hls, hges, hbs⟩
  rw [hslen]
  have hBs : Below (w.heap.size + 1) (w.alloc (.cells #[.int .i64 P.rows, .int .i64 P.cols, .slice (some ⟨b, 0, none⟩) P.cells.length cap, .int .i64 P.cursor] 77)) w2 := (Below.alloc (Below.refl _ _) (by simp) _).trans (hbs.mono (by simp))
  have ho2 := owns_below (owns_empty (w.alloc (.cells #[.int .i64 P.rows, .int .i64 P.cols, .slice (some ⟨b, 0, none⟩) P.cells.length cap, .int .i64 P.cursor] 77)) 153 3) hbs
  simp only [World.size_alloc] at hges ho2
  clear hbs
  go_wp2
  go_loopw [3, 5] (fun v i wr => ∃ k g c : Nat, k ≤ P.starts.length ∧ i = .int .i64 (k : Int) ∧ v = .slice (some ⟨g, 0, none⟩) k c ∧ wr.ownsRow (w.heap.size + 1) 153 3 v k (fcl (P.flds.take k)) ∧ Below (w.heap.size + 1) (w.alloc (.cells #[.int .i64 P.rows, .int .i64 P.cols, .slice (some ⟨b, 0, none⟩) P.cells.length cap, .int .i64 P.cursor] 77)) wr ∧ wr.heap[gs]? = some (.cells (ints (P.stl P.cells.length) ++ rs).toArray 3 (0, 0))) (fun _ i _ => P.starts.length - (intOf i).toNat)
  case atStart =>
    exact ⟨0, _, _, Nat.zero_le _, rfl, rfl, ho2, hBs, hls⟩
  case round =>
    obtain ⟨k, g, c, hk, rfl, rfl, hown, hB, hl⟩ := hrel
    clear hls ho2 hBs
    obtain ⟨x0, x1, x2, x3⟩ := box4 hB
    have hzB := hB.size
    simp only [World.size_alloc] at hzB
    by_cases hlt : k < P.starts.length
    · have hlt' : (k : Int) < (P.starts.length : Int) := by omega
      have hmem := P.starts_mem (List.getElem_mem hlt)
      have hlen := Pl.ref_len h.ok hlt
      have l1 := stl_get hl k hlt
      have l0 := stl_get hl 0 (by omega)
      have hf0 := (P.starts_mem (List.getElem_mem (show 0 < P.starts.length by omega))).1
      obtain ⟨k0, -, -, -, -⟩ := (h.below (below_of_box hB)).row5 _ hmem.1
      rw [← Pl.at_get hmem.1] at k0
      have hbyte := (Pl.at_ok h.ok (P.starts[k] : Int)).1
      have hstep := flds_take P k hlt
      have hge := (hown.lt g rfl).1
      have hgsl := lt_of_block hl
      have hne : g ≠ gs := by
        rintro rfl
        obtain ⟨_, r, hh⟩ := owns_row hown
        rw [hh] at hl
        simp at hl
      obtain ⟨s, hs⟩ : ∃ s, P.starts[k] = s := ⟨_, rfl⟩
      have hsl : (P.fld (P.starts[k] : Int)).start = (P.starts[k] : Int) := rfl
      have hsa : (P.fld (P.starts[k] : Int)).attr = low6 (P.at (P.starts[k] : Int)).byte := rfl
      have hs1 : (s : Int) < (P.cells.length : Int) := by omega
      by_cases hnx : k + 1 < P.starts.length
      · have l2 := stl_get hl (k + 1) hnx
        have hlt2 := P.starts_lt (show k < k + 1 by omega) hnx
        have hmem2 := P.starts_mem (List.getElem_mem hnx)
        rw [dif_pos hnx] at hlen
        obtain ⟨t, ht⟩ : ∃ t, P.starts[k + 1] = t := ⟨_, rfl⟩
        rw [hs] at hlen l1 k0 hbyte hstep hlt2 hmem
        rw [hs] at hsl hsa
        rw [ht] at hlen l2 hlt2 hmem2
        have hmem2' := hmem2.1
        obtain ⟨f, hf⟩ : ∃ f, P.fld (s : Int) = f := ⟨_, rfl⟩
        rw [hf] at hsl hsa hlen hstep
        obtain ⟨by', hby⟩ : ∃ x, (P.at (s : Int)).byte = x := ⟨_, rfl⟩
        rw [hby] at hsa k0 hbyte
        have HF := Lib.hid (show f = ⟨(s : Int), (t : Int) - s - 1, low6 by'⟩ by cases f; simp_all)
        have HS := Lib.hid hstep
        clear hsl hsa hlen hstep hf hs ht hmem hmem2 hby
        obtain ⟨hby0, hby1⟩ := hbyte
        have hnx' : (k : Int) + 1 < (P.starts.length : Int) := by omega
        have hpos : (0 : Int) < (P.starts.length : Int) := by omega
        obtain ⟨s0, hs0⟩ : ∃ s0, P.starts[0] = s0 := ⟨_, rfl⟩
        rw [hs0] at l0 hf0
        clear hs0
        have e0 : IntKind.i64.wrap ((s0 : Int) + (P.cells.length : Int)) = (s0 : Int) + (P.cells.length : Int) := IntWalk.i64_in _ (by omega)
        go_wp2
        go_quiet (fail)
        clear e0
        go_wp2
        have e1 : IntKind.i64.wrap ((t : Int) - s) = t - s := IntWalk.i64_in _ (by omega)
        have e2 : IntKind.i64.wrap ((t : Int) - s - 1) = t - s - 1 := IntWalk.i64_in _ (by omega)
        obtain ⟨i0, hi, hz0, hz1, hz2⟩ := info_parts HI.out
        go_region_held3 (fun w' => w'.cell? ⟨gs, k, none⟩ = some (.int .i64 (s : Int)) ∧ w'.cell? ⟨w.heap.size, 2, none⟩ = some (.slice (some ⟨b, 0, none⟩) P.cells.length cap) ∧ w'.cell? ⟨b, s * 5, none⟩ = some (.int .u8 by'))
          (first | go_keep | (go_split_ands; refine ⟨?_, ?_, ?_⟩ <;> (rw [hgr.cell_far _ (by simp; omega) (by simp [Value.ownBlock]; omega)]; assumption)))
          ((refine step_append_lies _ (by rfl) _ _ _ (by rfl) (w.heap.size + 1) 153 i0 _ 3 24 Try.underlying157 hi hz0 hz1 hz2 rfl (by omega) _ _ _ (by rfl) (owns_below hown (by with_reducible (repeat (first | exact Below.refl _ _ | assumption | (refine Below.setCell ?_ (by first | omega | (simp; done) | (simp; omega)) _) | (refine Below.alloc ?_ (by first | omega | (simp; done) | (simp; omega)) _) | (refine below_drewN ?_ _) | (refine Below.drew ?_) | (refine Below.trans ?_ (Below.mono hb (by first | omega | (simp; done) | (simp; omega)))) | (refine Below.trans ?_ (Below.mono hb1 (by first | omega | (simp; done) | (simp; omega)))) | (refine Below.trans ?_ (Below.mono hb2 (by first | omega | (simp; done) | (simp; omega)))) | (refine Below.trans ?_ (Below.mono hb3 (by first | omega | (simp; done) | (simp; omega)))) | (refine Below.trans ?_ (Below.mono hb4 (by first | omega | (simp; done) | (simp; omega)))) | (refine Below.trans ?_ (Below.mono hb5 (by first | omega | (simp; done) | (simp; omega)))) | (refine Below.trans ?_ (Below.mono hb6 (by first | omega | (simp; done) | (simp; omega)))) | (refine Below.trans ?_ (Below.mono hb7 (by first | omega | (simp; done) | (simp; omega)))) | (refine Below.trans ?_ (Below.mono hb8 (by first | omega | (simp; done) | (simp; omega)))) | (refine Below.trans ?_ (Below.mono hb9 (by first | omega | (simp; done) | (simp; omega)))) | (refine Below.trans ?_ (Below.mono hb10 (by first | omega | (simp; done) | (simp; omega)))) | (refine Below.trans ?_ (Below.mono hb11 (by first | omega | (simp; done) | (simp; omega)))) | (refine Below.trans ?_ (Below.mono hb12 (by first | omega | (simp; done) | (simp; omega)))))))) ⟨wr.heap.size, 0, none⟩ 1 1 [.int .i64 (s : Int), .int .i64 ((t : Int) - s - 1), .int .u8 (by'.tmod 64)] (by rfl) (by rfl) (news_new _ _ _ _ (by simp)) (by simp [Value.oneCell']) (by omega) (by unfold maxLen; omega) (by omega) (by simp; omega) (wr.heap.size + 1) (by simp) ?_; intro g2 c2 w3 hown2 hgr hat hlt3))
        clear hi hz0 hz1 hz2 e1 e2
        go_wp2
        go_roundw
        case rel =>
          refine ⟨k + 1, g2, c2, by omega, by go_num, rfl, ?_, ?_, ?_⟩
          · rw [HS.out, fcl_append, HF.out]
            have e : by'.tmod 64 = low6 by' := by rw [Int.tmod_eq_emod_of_nonneg hby0]; rfl
            rw [e] at hown2
            exact hown2
          · exact ((below_drewN hB _).alloc (by simp; omega) _).grown hgr (by simp; omega) (fun j e => by cases e; exact hge)
          · rw [hgr.block gs (by simp; omega) (by simp [Value.ownBlock]; omega), Below.heap_alloc _ _ _ (by simp; omega)]
            simpa using hl
        case measure => simp [intOf]; omega
      · rw [dif_neg hnx] at hlen
        obtain ⟨s0, hs0⟩ : ∃ s0, P.starts[0] = s0 := ⟨_, rfl⟩
        rw [hs0] at l0 hf0 hlen
        clear hs0
        obtain ⟨t, ht⟩ : ∃ t : Int, t = (s0 : Int) + (P.cells.length : Int) := ⟨_, rfl⟩
        rw [← ht] at hlen
        have ht0 : (s : Int) < t := by omega
        have ht1 : t ≤ 8192 := by omega
        rw [hs] at hlen l1 k0 hbyte hstep hmem
        rw [hs] at hsl hsa
        obtain ⟨f, hf⟩ : ∃ f, P.fld (s : Int) = f := ⟨_, rfl⟩
        rw [hf] at hsl hsa hlen hstep
        obtain ⟨by', hby⟩ : ∃ x, (P.at (s : Int)).byte = x := ⟨_, rfl⟩
        rw [hby] at hsa k0 hbyte
        have HF := Lib.hid (show f = ⟨(s : Int), t - s - 1, low6 by'⟩ by cases f; simp_all)
        have HS := Lib.hid hstep
        have HT := Lib.hid ht
        clear hsl hsa hlen hstep hf hs ht hmem hby
        obtain ⟨hby0, hby1⟩ := hbyte
        have hnx' : ¬ ((k : Int) + 1 < (P.starts.length : Int)) := by omega
        have hpos : (0 : Int) < (P.starts.length : Int) := by omega
        have e0 : IntKind.i64.wrap ((s0 : Int) + (P.cells.length : Int)) = t := by rw [HT.out]; exact IntWalk.i64_in _ (by omega)
        go_wp2
        go_quiet (fail)
        clear e0
        go_wp2
        have e1 : IntKind.i64.wrap (t - s) = t - s := IntWalk.i64_in _ (by omega)
        have e2 : IntKind.i64.wrap (t - s - 1) = t - s - 1 := IntWalk.i64_in _ (by omega)
        obtain ⟨i0, hi, hz0, hz1, hz2⟩ := info_parts HI.out
        go_region_held3 (fun w' => w'.cell? ⟨gs, k, none⟩ = some (.int .i64 (s : Int)) ∧ w'.cell? ⟨w.heap.size, 2, none⟩ = some (.slice (some ⟨b, 0, none⟩) P.cells.length cap) ∧ w'.cell? ⟨b, s * 5, none⟩ = some (.int .u8 by'))
          (first | go_keep | (go_split_ands; refine ⟨?_, ?_, ?_⟩ <;> (rw [hgr.cell_far _ (by simp; omega) (by simp [Value.ownBlock]; omega)]; assumption)))
          ((refine step_append_lies _ (by rfl) _ _ _ (by rfl) (w.heap.size + 1) 153 i0 _ 3 24 Try.underlying157 hi hz0 hz1 hz2 rfl (by omega) _ _ _ (by rfl) (owns_below hown (by with_reducible (repeat (first | exact Below.refl _ _ | assumption | (refine Below.setCell ?_ (by first | omega | (simp; done) | (simp; omega)) _) | (refine Below.alloc ?_ (by first | omega | (simp; done) | (simp; omega)) _) | (refine below_drewN ?_ _) | (refine Below.drew ?_) | (refine Below.trans ?_ (Below.mono hb (by first | omega | (simp; done) | (simp; omega)))) | (refine Below.trans ?_ (Below.mono hb1 (by first | omega | (simp; done) | (simp; omega)))) | (refine Below.trans ?_ (Below.mono hb2 (by first | omega | (simp; done) | (simp; omega)))) | (refine Below.trans ?_ (Below.mono hb3 (by first | omega | (simp; done) | (simp; omega)))) | (refine Below.trans ?_ (Below.mono hb4 (by first | omega | (simp; done) | (simp; omega)))) | (refine Below.trans ?_ (Below.mono hb5 (by first | omega | (simp; done) | (simp; omega)))) | (refine Below.trans ?_ (Below.mono hb6 (by first | omega | (simp; done) | (simp; omega)))) | (refine Below.trans ?_ (Below.mono hb7 (by first | omega | (simp; done) | (simp; omega)))) | (refine Below.trans ?_ (Below.mono hb8 (by first | omega | (simp; done) | (simp; omega)))) | (refine Below.trans ?_ (Below.mono hb9 (by first | omega | (simp; done) | (simp; omega)))) | (refine Below.trans ?_ (Below.mono hb10 (by first | omega | (simp; done) | (simp; omega)))) | (refine Below.trans ?_ (Below.mono hb11 (by first | omega | (simp; done) | (simp; omega)))) | (refine Below.trans ?_ (Below.mono hb12 (by first | omega | (simp; done) | (simp; omega)))))))) ⟨wr.heap.size, 0, none⟩ 1 1 [.int .i64 (s : Int), .int .i64 (t - s - 1), .int .u8 (by'.tmod 64)] (by rfl) (by rfl) (news_new _ _ _ _ (by simp)) (by simp [Value.oneCell']) (by omega) (by unfold maxLen; omega) (by omega) (by simp; omega) (wr.heap.size + 1) (by simp) ?_; intro g2 c2 w3 hown2 hgr hat hlt3))
        clear hi hz0 hz1 hz2 e1 e2
        go_wp2
        go_roundw
        case rel =>
          refine ⟨k + 1, g2, c2, by omega, by go_num, rfl, ?_, ?_, ?_⟩
          · rw [HS.out, fcl_append, HF.out]
            have e : by'.tmod 64 = low6 by' := by rw [Int.tmod_eq_emod_of_nonneg hby0]; rfl
            rw [e] at hown2
            exact hown2
          · exact ((below_drewN hB _).alloc (by simp; omega) _).grown hgr (by simp; omega) (fun j e => by cases e; exact hge)
          · rw [hgr.block gs (by simp; omega) (by simp [Value.ownBlock]; omega), Below.heap_alloc _ _ _ (by simp; omega)]
            simpa using hl
        case measure => simp [intOf]; omega
    · have e : k = P.starts.length := by omega
      subst e
      go_wp2
      go_ret
      obtain ⟨h1, r, h2⟩ := owns_row hown
      rw [← flds_len, List.take_length] at h2
      exact ⟨g, c, r, by rw [flds_len]; rfl, h2, by omega, below_of_box hB⟩
end Go.Proofs.Ytbkddgeocmkegaa
