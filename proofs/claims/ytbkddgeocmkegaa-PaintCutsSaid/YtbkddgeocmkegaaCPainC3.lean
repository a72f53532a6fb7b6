/- Lemmas on the way to this seat's statements; they bear no condition of their own. -/
import Derived.Test.YtbkddgeocmkegaaCPainC2
import Derived.Deep.RegionHeld3
namespace Go.Proofs.Ytbkddgeocmkegaa
open Go.RowKit Go.Shelf
set_option linter.unusedSimpArgs false
set_option linter.unusedVariables false
set_option maxHeartbeats 2000000
attribute [local go_sem ↓] run_start run_byte run_cols

theorem owns_below {w w' : World} {B T k n : Nat} {v : Value} {xs : List Value} (h : w.ownsRow B T k v n xs) (hb : Below w.heap.size w w') : w'.ownsRow B T k v n xs := by
  obtain ⟨h0, hv | ⟨g3, c3, cur, hv, hge, hh, h1, h2, h3, htk⟩⟩ := h
  · exact ⟨h0, .inl hv⟩
  · exact ⟨h0, .inr ⟨g3, c3, cur, hv, hge, (hb.block g3 (lt_of_block hh)).trans hh, h1, h2, h3, htk⟩⟩
/-- Fields, as they lie in memory. -/
def Fld.vals (f : Fld) : List Value := [.int .i64 f.start, .int .i64 f.len, .int .u8 f.attr]
def fcl (fs : List Fld) : List Value := fs.flatMap Fld.vals
theorem fcl_len (fs : List Fld) : (fcl fs).length = 3 * fs.length := by
  induction fs with
  | nil => rfl
  | cons f fs ih => simp only [fcl, List.flatMap_cons, List.length_append, List.length_cons] at ih ⊢; rw [ih]; simp [Fld.vals]; omega
theorem fcl_append (a b : List Fld) : fcl (a ++ b) = fcl a ++ fcl b := by simp [fcl]
theorem fcl_at (fs : List Fld) (i : Nat) (h : i < fs.length) (k : Nat) (hk : k < 3) : (fcl fs)[i * 3 + k]? = (fs[i].vals)[k]? := by
  induction fs generalizing i with
  | nil => simp at h
  | cons f fs ih =>
    have e0 : fcl (f :: fs) = f.vals ++ fcl fs := by simp [fcl]
    rw [e0]
    cases i with
    | zero => simp only [Nat.zero_mul, Nat.zero_add, List.getElem_cons_zero]; rw [List.getElem?_append_left (by simp [Fld.vals]; omega)]
    | succ i =>
      rw [List.getElem?_append_right (by simp [Fld.vals]; omega)]
      have : (i + 1) * 3 + k - f.vals.length = i * 3 + k := by simp [Fld.vals]; omega
      rw [this]
      simpa using ih i (by simpa using h)
theorem fcl_get {w : World} {g : Nat} {fs : List Fld} {rest : List Value} {T : Nat} (h : w.heap[g]? = some (.cells (fcl fs ++ rest).toArray T (0, 0))) (i : Nat) (hi : i < fs.length) :
    w.cell? ⟨g, i * 3, none⟩ = some (.int .i64 fs[i].start) ∧ w.cell? ⟨g, i * 3 + 1, none⟩ = some (.int .i64 fs[i].len) ∧ w.cell? ⟨g, i * 3 + 2, none⟩ = some (.int .u8 fs[i].attr) := by
  have key : ∀ k, k < 3 → w.cell? ⟨g, i * 3 + k, none⟩ = (fs[i].vals)[k]? := by
    intro k hk
    simp only [World.cell?, h, Option.isSome_none, Bool.false_eq_true, if_false, List.getElem?_toArray]
    rw [List.getElem?_append_left (by rw [fcl_len]; omega), fcl_at _ _ hi _ hk]
  have k0 := key 0 (by omega)
  have k1 := key 1 (by omega)
  have k2 := key 2 (by omega)
  simp [Fld.vals] at k0 k1 k2
  exact ⟨k0, k1, k2⟩
def FldsPost (l : List Fld) (w : World) (e : Ending) (w' : World) : Prop :=
  ∃ (g cap : Nat) (rest : List Value), e = .returned (.slice (some ⟨g, 0, none⟩) l.length cap) ∧ w'.heap[g]? = some (.cells (fcl l ++ rest).toArray 153 (0, 0)) ∧ w.heap.size ≤ g ∧ Below w.heap.size w w'
theorem info_fld : (Try.prog.info? 153).map (fun i => (i.zero, i.size, i.bytes)) = some (some (.agg #[.int .i64 0, .int .i64 0, .int .u8 0]), 3, 24) := by kernel_rfl

theorem stl_starts (P : Pl) : P.stl P.cells.length = P.starts.map (fun (i : Nat) => (i : Int)) := rfl
theorem stl_get {P : Pl} {w : World} {g : Nat} {rest : List Value} (h : w.heap[g]? = some (.cells (ints (P.stl P.cells.length) ++ rest).toArray 3 (0, 0))) (i : Nat) (hi : i < P.starts.length) : w.cell? ⟨g, i, none⟩ = some (.int .i64 (P.starts[i] : Int)) := by
  have := ints_get h i (by rw [stl_starts]; simpa using hi)
  rw [this]
  simp [stl_starts]
theorem flds_take (P : Pl) (k : Nat) (hk : k < P.starts.length) : P.flds.take (k + 1) = P.flds.take k ++ [P.fld (P.starts[k] : Int)] := by
  rw [List.take_add_one]
  congr 1
  unfold Pl.flds
  rw [List.getElem?_map, List.getElem?_eq_getElem hk]
  rfl
theorem flds_len (P : Pl) : P.flds.length = P.starts.length := by simp [Pl.flds]
theorem starts_le_n (P : Pl) : P.starts.length ≤ P.cells.length := by
  have := P.cnt_le_self P.cells.length
  rwa [P.cnt_n] at this

theorem news_new (w : World) (cs : Array Value) (T B : Nat) (hB : w.heap.size = B) : ∀ (j : Nat) (u : Value), cs.toList[j]? = some u → (w.alloc (.cells cs T)).cell? ((⟨B, 0, none⟩ : Addr).add j) = some u := by
  subst hB
  exact World.news_of_block (World.alloc_heap_new w (.cells cs T))

set_option maxRecDepth 100000 in
theorem rAll_any {w : World} {b cap : Nat} {P : Pl} (h : RC w b P) :
    Calls Try.prog 98 #[.agg #[.int .i64 P.rows, .int .i64 P.cols, .slice (some ⟨b, 0, none⟩) P.cells.length cap, .int .i64 P.cursor]] w (FldsPost P.flds w) := by
  have hn := Pl.N_pos h.ok
  have hm := Pl.N_le h.ok
  have hbl := h.bl
  have hsn := starts_le_n P
  have HI := Lib.hid info_fld
  have hslen : (P.stl P.cells.length).length = P.starts.length := by rw [stl_starts]; simp
  go_enter Try.func98, Try.ntmps98
  go_wp2_with fail
  refine (rStarts_any (h.below (by with_reducible (repeat (first | exact Below.refl _ _ | assumption | (refine Below.setCell ?_ (by first | omega | (simp; done) | (simp; omega)) _) | (refine Below.alloc ?_ (by first | omega | (simp; done) | (simp; omega)) _) | (refine below_drewN ?_ _) | (refine Below.drew ?_) | (refine Below.trans ?_ (Below.mono hb (by first | omega | (simp; done) | (simp; omega)))) | (refine Below.trans ?_ (Below.mono hb1 (by first | omega | (simp; done) | (simp; omega)))) | (refine Below.trans ?_ (Below.mono hb2 (by first | omega | (simp; done) | (simp; omega)))) | (refine Below.trans ?_ (Below.mono hb3 (by first | omega | (simp; done) | (simp; omega)))) | (refine Below.trans ?_ (Below.mono hb4 (by first | omega | (simp; done) | (simp; omega)))) | (refine Below.trans ?_ (Below.mono hb5 (by first | omega | (simp; done) | (simp; omega)))) | (refine Below.trans ?_ (Below.mono hb6 (by first | omega | (simp; done) | (simp; omega)))) | (refine Below.trans ?_ (Below.mono hb7 (by first | omega | (simp; done) | (simp; omega)))) | (refine Below.trans ?_ (Below.mono hb8 (by first | omega | (simp; done) | (simp; omega)))) | (refine Below.trans ?_ (Below.mono hb9 (by first | omega | (simp; done) | (simp; omega)))) | (refine Below.trans ?_ (Below.mono hb10 (by first | omega | (simp; done) | (simp; omega)))) | (refine Below.trans ?_ (Below.mono hb11 (by first | omega | (simp; done) | (simp; omega)))) | (refine Below.trans ?_ (Below.mono hb12 (by first | omega | (simp; done) | (simp; omega))))))))).mono ?_
  rintro e w2 ⟨gs, cs, rs, rfl, hls, hges, hbs⟩
  rw [hslen]
  have hBs : Below (w.heap.size + 1) (w.alloc (.cells #[.int .i64 P.rows, .int .i64 P.cols, .slice (some ⟨b, 0, none⟩) P.cells.length cap, .int .i64 P.cursor] 77)) w2 := (Below.alloc (Below.refl _ _) (by simp) _).trans (hbs.mono (by simp))
  have ho2 := owns_below (owns_empty (w.alloc (.cells #[.int .i64 P.rows, .int .i64 P.cols, .slice (some ⟨b, 0, none⟩) P.cells.length cap, .int .i64 P.cursor] 77)) 153 3) hbs
  simp only [World.size_alloc] at hges ho2
  clear hbs
  go_wp2
  go_loopw [3, 5] (fun v i wr => ∃ k g c : Nat, k ≤ P.starts.length ∧ i = .int .i64 (k : Int) ∧ v = .slice (some ⟨g, 0, none⟩) k c ∧ wr.ownsRow (w.heap.size + 1) 153 3 v k (fcl (P.flds.take k)) ∧ Below (w.heap.size + 1) (w.alloc (.cells #[.int .i64 P.rows, .int .i64 P.cols, .slice (some ⟨b, 0, none⟩) P.cells.length cap, .int .i64 P.cursor] 77)) wr ∧ wr.heap[gs]? = some (.cells (ints (P.stl P.cells.length) ++ rs).toArray 3 (0, 0))) (fun _ i _ => P.starts.length - (intOf i).toNat)
  case atStart =>
    exact ⟨0, _, _, Nat.zero_le _, rfl, rfl, ho2, hBs, hls⟩
  case round =>
    obtain ⟨k, g, c, hk, rfl, rfl, hown, hB, hl⟩ := hrel
    clear hls ho2 hBs
    obtain ⟨x0, x1, x2, x3⟩ := box4 hB
    have hzB := hB.size
    simp only [World.size_alloc] at hzB
    by_cases hlt : k < P.starts.length
    · have hlt' : (k : Int) < (P.starts.length : Int) := by omega
      have hmem := P.starts_mem (List.getElem_mem hlt)
      have hlen := Pl.ref_len h.ok hlt
      have l1 := stl_get hl k hlt
      have l0 := stl_get hl 0 (by omega)
      have hf0 := (P.starts_mem (List.getElem_mem (show 0 < P.starts.length by omega))).1
      obtain ⟨k0, -, -, -, -⟩ := (h.below (below_of_box hB)).row5 _ hmem.1
      rw [← Pl.at_get hmem.1] at k0
      have hbyte := (Pl.at_ok h.ok (P.starts[k] : Int)).1
      have hstep := flds_take P k hlt
      have hge := (hown.lt g rfl).1
      have hgsl := lt_of_block hl
      have hne : g ≠ gs := by
        rintro rfl
        obtain ⟨_, r, hh⟩ := owns_row hown
        rw [hh] at hl
        simp at hl
      obtain ⟨s, hs⟩ : ∃ s, P.starts[k] = s := ⟨_, rfl⟩
      have hsl : (P.fld (P.starts[k] : Int)).start = (P.starts[k] : Int) := rfl
      have hsa : (P.fld (P.starts[k] : Int)).attr = low6 (P.at (P.starts[k] : Int)).byte := rfl
      have hs1 : (s : Int) < (P.cells.length : Int) := by omega
      by_cases hnx : k + 1 < P.starts.length
      · have l2 := stl_get hl (k + 1) hnx
        have hlt2 := P.starts_lt (show k < k + 1 by omega) hnx
        have hmem2 := P.starts_mem (List.getElem_mem hnx)
        rw [dif_pos hnx] at hlen
        obtain ⟨t, ht⟩ : ∃ t, P.starts[k + 1] = t := ⟨_, rfl⟩
        rw [hs] at hlen l1 k0 hbyte hstep hlt2 hmem
        rw [hs] at hsl hsa
        rw [ht] at hlen l2 hlt2 hmem2
        have hmem2' := hmem2.1
        obtain ⟨f, hf⟩ : ∃ f, P.fld (s : Int) = f := ⟨_, rfl⟩
        rw [hf] at hsl hsa hlen hstep
        obtain ⟨by', hby⟩ : ∃ x, (P.at (s : Int)).byte = x := ⟨_, rfl⟩
        rw [hby] at hsa k0 hbyte
        have HF := Lib.hid (show f = ⟨(s : Int), (t : Int) - s - 1, low6 by'⟩ by cases f; simp_all)
        have HS := Lib.hid hstep
        clear hsl hsa hlen hstep hf hs ht hmem hmem2 hby
        obtain ⟨hby0, hby1⟩ := hbyte
        have hnx' : (k : Int) + 1 < (P.starts.length : Int) := by omega
        have hpos : (0 : Int) < (P.starts.length : Int) := by omega
        obtain ⟨s0, hs0⟩ : ∃ s0, P.starts[0] = s0 := ⟨_, rfl⟩
        rw [hs0] at l0 hf0
        clear hs0
        have e0 : IntKind.i64.wrap ((s0 : Int) + (P.cells.length : Int)) = (s0 : Int) + (P.cells.length : Int) := IntWalk.i64_in _ (by omega)
        go_wp2
        go_quiet (fail)
        clear e0
        go_wp2
        have e1 : IntKind.i64.wrap ((t : Int) - s) = t - s := IntWalk.i64_in _ (by omega)
        have e2 : IntKind.i64.wrap ((t : Int) - s - 1) = t - s - 1 := IntWalk.i64_in _ (by omega)
        obtain ⟨i0, hi, hz0, hz1, hz2⟩ := info_parts HI.out
        go_region_held3 (fun w' => w'.cell? ⟨gs, k, none⟩ = some (.int .i64 (s : Int)) ∧ w'.cell? ⟨w.heap.size, 2, none⟩ = some (.slice (some ⟨b, 0, none⟩) P.cells.length cap) ∧ w'.cell? ⟨b, s * 5, none⟩ = some (.int .u8 by'))
          (first | go_keep | (go_split_ands; refine ⟨?_, ?_, ?_⟩ <;> (rw [hgr.cell_far _ (by simp; omega) (by simp [Value.ownBlock]; omega)]; assumption)))
          ((refine step_append_lies _ (by rfl) _ _ _ (by rfl) (w.heap.size + 1) 153 i0 _ 3 24 Try.underlying157 hi hz0 hz1 hz2 rfl (by omega) _ _ _ (by rfl) (owns_below hown (by with_reducible (repeat (first | exact Below.refl _ _ | assumption | (refine Below.setCell ?_ (by first | omega | (simp; done) | (simp; omega)) _) | (refine Below.alloc ?_ (by first | omega | (simp; done) | (simp; omega)) _) | (refine below_drewN ?_ _) | (refine Below.drew ?_) | (refine Below.trans ?_ (Below.mono hb (by first | omega | (simp; done) | (simp; omega)))) | (refine Below.trans ?_ (Below.mono hb1 (by first | omega | (simp; done) | (simp; omega)))) | (refine Below.trans ?_ (Below.mono hb2 (by first | omega | (simp; done) | (simp; omega)))) | (refine Below.trans ?_ (Below.mono hb3 (by first | omega | (simp; done) | (simp; omega)))) | (refine Below.trans ?_ (Below.mono hb4 (by first | omega | (simp; done) | (simp; omega)))) | (refine Below.trans ?_ (Below.mono hb5 (by first | omega | (simp; done) | (simp; omega)))) | (refine Below.trans ?_ (Below.mono hb6 (by first | omega | (simp; done) | (simp; omega)))) | (refine Below.trans ?_ (Below.mono hb7 (by first | omega | (simp; done) | (simp; omega)))) | (refine Below.trans ?_ (Below.mono hb8 (by first | omega | (simp; done) | (simp; omega)))) | (refine Below.trans ?_ (Below.mono hb9 (by first | omega | (simp; done) | (simp; omega)))) | (refine Below.trans ?_ (Below.mono hb10 (by first | omega | (simp; done) | (simp; omega)))) | (refine Below.trans ?_ (Below.mono hb11 (by first | omega | (simp; done) | (simp; omega)))) | (refine Below.trans ?_ (Below.mono hb12 (by first | omega | (simp; done) | (simp; omega)))))))) ⟨wr.heap.size, 0, none⟩ 1 1 [.int .i64 (s : Int), .int .i64 ((t : Int) - s - 1), .int .u8 (by'.tmod 64)] (by rfl) (by rfl) (news_new _ _ _ _ (by simp)) (by simp [Value.oneCell']) (by omega) (by unfold maxLen; omega) (by omega) (by simp; omega) (wr.heap.size + 1) (by simp) ?_; intro g2 c2 w3 hown2 hgr hat hlt3))
        clear hi hz0 hz1 hz2 e1 e2
        go_wp2
        go_roundw
        case rel =>
          refine ⟨k + 1, g2, c2, by omega, by go_num, rfl, ?_, ?_, ?_⟩
          · rw [HS.out, fcl_append, HF.out]
            have e : by'.tmod 64 = low6 by' := by rw [Int.tmod_eq_emod_of_nonneg hby0]; rfl
            rw [e] at hown2
            exact hown2
          · exact ((below_drewN hB _).alloc (by simp; omega) _).grown hgr (by simp; omega) (fun j e => by cases e; exact hge)
          · rw [hgr.block gs (by simp; omega) (by simp [Value.ownBlock]; omega), Below.heap_alloc _ _ _ (by simp; omega)]
            simpa using hl
        case measure => simp [intOf]; omega
      · rw [dif_neg hnx] at hlen
        obtain ⟨s0, hs0⟩ : ∃ s0, P.starts[0] = s0 := ⟨_, rfl⟩
        rw [hs0] at l0 hf0 hlen
        clear hs0
        obtain ⟨t, ht⟩ : ∃ t : Int, t = (s0 : Int) + (P.cells.length : Int) := ⟨_, rfl⟩
        rw [← ht] at hlen
        have ht0 : (s : Int) < t := by omega
        have ht1 : t ≤ 8192 := by omega
        rw [hs] at hlen l1 k0 hbyte hstep hmem
        rw [hs] at hsl hsa
        obtain ⟨f, hf⟩ : ∃ f, P.fld (s : Int) = f := ⟨_, rfl⟩
        rw [hf] at hsl hsa hlen hstep
        obtain ⟨by', hby⟩ : ∃ x, (P.at (s : Int)).byte = x := ⟨_, rfl⟩
        rw [hby] at hsa k0 hbyte
        have HF := Lib.hid (show f = ⟨(s : Int), t - s - 1, low6 by'⟩ by cases f; simp_all)
        have HS := Lib.hid hstep
        have HT := Lib.hid ht
        clear hsl hsa hlen hstep hf hs ht hmem hby
        obtain ⟨hby0, hby1⟩ := hbyte
        have hnx' : ¬ ((k : Int) + 1 < (P.starts.length : Int)) := by omega
        have hpos : (0 : Int) < (P.starts.length : Int) := by omega
        have e0 : IntKind.i64.wrap ((s0 : Int) + (P.cells.length : Int)) = t := by rw [HT.out]; exact IntWalk.i64_in _ (by omega)
        go_wp2
        go_quiet (fail)
        clear e0
        go_wp2
        have e1 : IntKind.i64.wrap (t - s) = t - s := IntWalk.i64_in _ (by omega)
        have e2 : IntKind.i64.wrap (t - s - 1) = t - s - 1 := IntWalk.i64_in _ (by omega)
        obtain ⟨i0, hi, hz0, hz1, hz2⟩ := info_parts HI.out
        go_region_held3 (fun w' => w'.cell? ⟨gs, k, none⟩ = some (.int .i64 (s : Int)) ∧ w'.cell? ⟨w.heap.size, 2, none⟩ = some (.slice (some ⟨b, 0, none⟩) P.cells.length cap) ∧ w'.cell? ⟨b, s * 5, none⟩ = some (.int .u8 by'))
          (first | go_keep | (go_split_ands; refine ⟨?_, ?_, ?_⟩ <;> (rw [hgr.cell_far _ (by simp; omega) (by simp [Value.ownBlock]; omega)]; assumption)))
          ((refine step_append_lies _ (by rfl) _ _ _ (by rfl) (w.heap.size + 1) 153 i0 _ 3 24 Try.underlying157 hi hz0 hz1 hz2 rfl (by omega) _ _ _ (by rfl) (owns_below hown (by with_reducible (repeat (first | exact Below.refl _ _ | assumption | (refine Below.setCell ?_ (by first | omega | (simp; done) | (simp; omega)) _) | (refine Below.alloc ?_ (by first | omega | (simp; done) | (simp; omega)) _) | (refine below_drewN ?_ _) | (refine Below.drew ?_) | (refine Below.trans ?_ (Below.mono hb (by first | omega | (simp; done) | (simp; omega)))) | (refine Below.trans ?_ (Below.mono hb1 (by first | omega | (simp; done) | (simp; omega)))) | (refine Below.trans ?_ (Below.mono hb2 (by first | omega | (simp; done) | (simp; omega)))) | (refine Below.trans ?_ (Below.mono hb3 (by first | omega | (simp; done) | (simp; omega)))) | (refine Below.trans ?_ (Below.mono hb4 (by first | omega | (simp; done) | (simp; omega)))) | (refine Below.trans ?_ (Below.mono hb5 (by first | omega | (simp; done) | (simp; omega)))) | (refine Below.trans ?_ (Below.mono hb6 (by first | omega | (simp; done) | (simp; omega)))) | (refine Below.trans ?_ (Below.mono hb7 (by first | omega | (simp; done) | (simp; omega)))) | (refine Below.trans ?_ (Below.mono hb8 (by first | omega | (simp; done) | (simp; omega)))) | (refine Below.trans ?_ (Below.mono hb9 (by first | omega | (simp; done) | (simp; omega)))) | (refine Below.trans ?_ (Below.mono hb10 (by first | omega | (simp; done) | (simp; omega)))) | (refine Below.trans ?_ (Below.mono hb11 (by first | omega | (simp; done) | (simp; omega)))) | (refine Below.trans ?_ (Below.mono hb12 (by first | omega | (simp; done) | (simp; omega)))))))) ⟨wr.heap.size, 0, none⟩ 1 1 [.int .i64 (s : Int), .int .i64 (t - s - 1), .int .u8 (by'.tmod 64)] (by rfl) (by rfl) (news_new _ _ _ _ (by simp)) (by simp [Value.oneCell']) (by omega) (by unfold maxLen; omega) (by omega) (by simp; omega) (wr.heap.size + 1) (by simp) ?_; intro g2 c2 w3 hown2 hgr hat hlt3))
        clear hi hz0 hz1 hz2 e1 e2
        go_wp2
        go_roundw
        case rel =>
          refine ⟨k + 1, g2, c2, by omega, by go_num, rfl, ?_, ?_, ?_⟩
          · rw [HS.out, fcl_append, HF.out]
            have e : by'.tmod 64 = low6 by' := by rw [Int.tmod_eq_emod_of_nonneg hby0]; rfl
            rw [e] at hown2
            exact hown2
          · exact ((below_drewN hB _).alloc (by simp; omega) _).grown hgr (by simp; omega) (fun j e => by cases e; exact hge)
          · rw [hgr.block gs (by simp; omega) (by simp [Value.ownBlock]; omega), Below.heap_alloc _ _ _ (by simp; omega)]
            simpa using hl
        case measure => simp [intOf]; omega
    · have e : k = P.starts.length := by omega
      subst e
      go_wp2
      go_ret
      obtain ⟨h1, r, h2⟩ := owns_row hown
      rw [← flds_len, List.take_length] at h2
      exact ⟨g, c, r, by rw [flds_len]; rfl, h2, by omega, below_of_box hB⟩
end Go.Proofs.Ytbkddgeocmkegaa

namespace Go.Proofs.Ytbkddgeocmkegaa
open Go.RowKit Go.Shelf
set_option linter.unusedSimpArgs false
set_option linter.unusedVariables false
set_option maxHeartbeats 2000000
attribute [local go_sem ↓] run_start run_byte run_cols

/-- The places of a field's cells, but its attribute's. -/
def Pl.plc (P : Pl) (f : Fld) (k : Nat) : List Int := (List.range k).map fun (i : Nat) => (f.start + ((i : Int) + 1)) % (P.cells.length : Int)
theorem Pl.plc_len (P : Pl) (f : Fld) (k : Nat) : (P.plc f k).length = k := by simp [Pl.plc]
theorem Pl.plc_step (P : Pl) (f : Fld) (k : Nat) : P.plc f (k + 1) = P.plc f k ++ [(f.start + ((k : Int) + 1)) % (P.cells.length : Int)] := by
  unfold Pl.plc
  rw [List.range_succ, List.map_append]
  rfl
theorem Pl.plc_get (P : Pl) (f : Fld) (k i : Nat) (h : i < (P.plc f k).length) : (P.plc f k)[i] = (f.start + ((i : Int) + 1)) % (P.cells.length : Int) := by simp [Pl.plc]

set_option maxRecDepth 100000 in
theorem rPlaces_any {w : World} {b cap : Nat} {P : Pl} (h : RC w b P) (f : Fld) (hs0 : 0 ≤ f.start) (hs1 : f.start < (P.cells.length : Int)) (hl0 : 0 ≤ f.len) (hl1 : f.len ≤ (P.cells.length : Int)) :
    Calls Try.prog 159 #[.agg #[.int .i64 P.rows, .int .i64 P.cols, .slice (some ⟨b, 0, none⟩) P.cells.length cap, .int .i64 P.cursor], .agg #[.int .i64 f.start, .int .i64 f.len, .int .u8 f.attr]] w (IntsPost (P.plc f f.len.toNat) w) := by
  have hn := Pl.N_pos h.ok
  have hm := Pl.N_le h.ok
  have hbl := h.bl
  have HI := Lib.hid info_int
  have hhas : P.inB f.start = true := decide_eq_true ⟨hs0, hs1⟩
  have hheld : (if f.len < 0 then 0 else if (P.cells.length : Int) < f.len then (P.cells.length : Int) else f.len) = f.len := by rw [if_neg (by omega), if_neg (by omega)]
  go_enter Try.func159, Try.ntmps159
  go_wp2_with fail
  refine (rHas_any (P := P) (b := b) (cap := cap) _).mono ?_
  rintro e w2 ⟨rfl, hb2⟩
  rw [hhas]
  have ho2 := owns_below (owns_empty ((w.alloc (.cells #[.int .i64 P.rows, .int .i64 P.cols, .slice (some ⟨b, 0, none⟩) P.cells.length cap, .int .i64 P.cursor] 77)).alloc (.cells #[.int .i64 f.start, .int .i64 f.len, .int .u8 f.attr] 153)) 3 1) hb2
  have hB2 : Below (w.heap.size + 2) ((w.alloc (.cells #[.int .i64 P.rows, .int .i64 P.cols, .slice (some ⟨b, 0, none⟩) P.cells.length cap, .int .i64 P.cursor] 77)).alloc (.cells #[.int .i64 f.start, .int .i64 f.len, .int .u8 f.attr] 153)) w2 := (Below.alloc (Below.refl _ _) (by simp) _).trans (hb2.mono (by simp))
  have hz2 := hb2.size
  simp only [World.size_alloc] at ho2 hz2
  clear hb2
  have y0 : w2.cell? ⟨w.heap.size, 2, none⟩ = some (.slice (some ⟨b, 0, none⟩) P.cells.length cap) := (hB2.cell (p := ⟨w.heap.size, 2, none⟩) (by show w.heap.size < w.heap.size + 2; omega)).trans (by simp [go_sem])
  have y1 : w2.cell? ⟨w.heap.size + 1, 1, none⟩ = some (.int .i64 f.len) := (hB2.cell (p := ⟨w.heap.size + 1, 1, none⟩) (by show w.heap.size + 1 < w.heap.size + 2; omega)).trans (by simp [go_sem])
  go_wp2_with fail
  refine (rHeld_in _ _ _ _).mono ?_
  rintro e w3 ⟨rfl, hb3⟩
  rw [hheld]
  clear y0 y1
  have hB3 := hB2.trans (hb3.mono (by omega))
  have ho3 := owns_below ho2 hb3
  have hz3 := hb3.size
  clear hb3 hB2 ho2
  go_wp2
  go_loopw [5, 7] (fun v i wr => ∃ k g c : Nat, (k : Int) ≤ f.len ∧ i = .int .i64 ((k : Int) + 1) ∧ v = .slice (some ⟨g, 0, none⟩) k c ∧ wr.ownsRow (w.heap.size + 2) 3 1 v k (ints (P.plc f k)) ∧ Below (w.heap.size + 2) ((w.alloc (.cells #[.int .i64 P.rows, .int .i64 P.cols, .slice (some ⟨b, 0, none⟩) P.cells.length cap, .int .i64 P.cursor] 77)).alloc (.cells #[.int .i64 f.start, .int .i64 f.len, .int .u8 f.attr] 153)) wr) (fun _ i _ => (f.len + 1 - intOf i).toNat)
  case atStart =>
    exact ⟨0, _, _, hl0, rfl, rfl, ho3, hB3⟩
  case round =>
    obtain ⟨k, g, c, hk, rfl, rfl, hown, hB⟩ := hrel
    have y0 : wr.cell? ⟨w.heap.size, 2, none⟩ = some (.slice (some ⟨b, 0, none⟩) P.cells.length cap) := (hB.cell (p := ⟨w.heap.size, 2, none⟩) (by show w.heap.size < w.heap.size + 2; omega)).trans (by simp [go_sem])
    have y1 : wr.cell? ⟨w.heap.size + 1, 0, none⟩ = some (.int .i64 f.start) := (hB.cell (p := ⟨w.heap.size + 1, 0, none⟩) (by show w.heap.size + 1 < w.heap.size + 2; omega)).trans (by simp [go_sem])
    have hzB := hB.size
    simp only [World.size_alloc] at hzB
    have hge := (hown.lt g rfl).1
    by_cases hlt : (k : Int) < f.len
    · go_wp2_with (at_builtin; obtain ⟨i0, hi, hz0, hz1, hz2⟩ := info_parts HI.out; refine wpList_append_lies _ rfl _ _ 68 rfl (w.heap.size + 2) 3 i0 _ 1 8 Try.underlying68 hi hz0 hz1 hz2 rfl (by decide) _ _ _ rfl (hown.alloc _) ⟨wr.heap.size, 0, none⟩ 1 1 [.int .i64 ((f.start + ((k : Int) + 1)) % (P.cells.length : Int))] rfl rfl (news_new _ _ _ _ rfl) (by intro u hu; simp at hu; subst hu; rfl) (by decide) (by unfold maxLen; omega) (by omega) (by simp; omega) (wr.heap.size + 1) (by simp) ?_; clear hi hz0 hz1 hz2; intro g2 c2 w4 hown2 hgr hat hlt4)
      go_wp2
      go_roundw
      case rel =>
        exact ⟨k + 1, g2, c2, by omega, by go_num, rfl, by rw [P.plc_step]; simpa [ints] using hown2, (hB.alloc (by omega) _).grown hgr (by simp; omega) (fun j e => by cases e; exact hge)⟩
      case measure => simp [intOf]; omega
    · have e : k = f.len.toNat := by omega
      subst e
      go_wp2
      go_ret
      obtain ⟨h1, r, h2⟩ := owns_row hown
      exact ⟨g, c, r, by rw [P.plc_len]; rfl, h2, by omega, ((Below.refl w.heap.size w).alloc (by omega) _).alloc (by simp) _ |>.trans (hB.mono (by omega))⟩
end Go.Proofs.Ytbkddgeocmkegaa

namespace Go.Proofs.Ytbkddgeocmkegaa
open Go.RowKit Go.Shelf
set_option linter.unusedSimpArgs false
set_option linter.unusedVariables false
set_option maxHeartbeats 2000000
attribute [local go_sem ↓] run_start run_byte run_cols

theorem flds_at (P : Pl) (k : Nat) (h : k < P.flds.length) : P.flds[k] = P.fld ((P.starts[k]'(by rwa [flds_len] at h) : Nat) : Int) := by simp [Pl.flds]
theorem fld_ok {P : Pl} (hok : P.ok) (k : Nat) (h : k < P.flds.length) : 0 ≤ P.flds[k].start ∧ P.flds[k].start < (P.cells.length : Int) ∧ 0 ≤ P.flds[k].len ∧ P.flds[k].len < (P.cells.length : Int) ∧ 0 ≤ P.flds[k].attr ∧ P.flds[k].attr ≤ 255 := by
  rw [flds_at]
  have h' : k < P.starts.length := by rwa [flds_len] at h
  have m := P.starts_mem (List.getElem_mem h')
  obtain ⟨l, hl, e, -, -⟩ := Pl.len_spec hok m.1 m.2
  have ha := low6_ok (P.at (P.starts[k] : Int)).byte
  refine ⟨?_, ?_, ?_, ?_, ha⟩
  · show (0 : Int) ≤ P.starts[k]; omega
  · show (P.starts[k] : Int) < _; omega
  · rw [e]; omega
  · rw [e]; omega
theorem ofs_start (P : Pl) (s : Nat) (hs : s < P.cells.length) (at' : Int) (hl : 0 ≤ (P.fld (s : Int)).len) (h : (P.fld (s : Int)).start = at') : P.ofs s at' :=
  ⟨0, by omega, by rw [Nat.add_zero, Nat.mod_eq_of_lt hs, ← h]; rfl⟩
theorem ofs_plc (P : Pl) (s : Nat) (at' : Int) (m : Nat) (hm : (m : Int) < (P.fld (s : Int)).len) (h : ((P.fld (s : Int)).start + ((m : Int) + 1)) % (P.cells.length : Int) = at') : P.ofs s at' :=
  ⟨m + 1, by omega, by rw [← h]; push_cast; rfl⟩
theorem not_ofs (P : Pl) (s : Nat) (hs : s < P.cells.length) (at' : Int) (h0 : (P.fld (s : Int)).start ≠ at') (h : ∀ m : Nat, (m : Int) < (P.fld (s : Int)).len → ((P.fld (s : Int)).start + ((m : Int) + 1)) % (P.cells.length : Int) ≠ at') : ¬ P.ofs s at' := by
  rintro ⟨i, hi, e⟩
  cases i with
  | zero => rw [Nat.add_zero, Nat.mod_eq_of_lt hs] at e; exact h0 e.symm
  | succ i =>
    refine h i (by push_cast at hi; omega) ?_
    rw [e]
    push_cast
    rfl
theorem of_found {P : Pl} (hok : P.ok) {k : Nat} (hk : k < P.flds.length) {at' : Int} (h : P.ofs (P.starts[k]'(by rwa [flds_len] at hk)) at') : P.ofF at' = P.flds[k] ∧ P.ofB at' = true := by
  have h' : k < P.starts.length := by rwa [flds_len] at hk
  have m := P.starts_mem (List.getElem_mem h')
  have e := Pl.before_of hok m.1 m.2 h
  refine ⟨?_, ?_⟩
  · unfold Pl.ofF; rw [e, if_pos (by omega), flds_at]
  · unfold Pl.ofB; rw [e]; exact decide_eq_true (by omega)
theorem of_none {P : Pl} (hok : P.ok) {at' : Int} (h : ∀ (k : Nat) (hk : k < P.starts.length), ¬ P.ofs P.starts[k] at') : P.ofF at' = ⟨0, 0, 0⟩ ∧ P.ofB at' = false := by
  have e : ¬ 0 ≤ P.before at' := Pl.before_none hok (fun s hs hst => by
    obtain ⟨c, hc, rfl⟩ := P.starts_ix hs hst
    exact h c hc)
  refine ⟨?_, ?_⟩
  · unfold Pl.ofF; rw [if_neg e]
  · unfold Pl.ofB; exact decide_eq_false e

theorem keep4f {W w2 : World} {a b c d e f g : Addr} {v u x y z s t : Value} (h : (W.cell? a = some v ∧ W.cell? b = some u ∧ W.cell? c = some x ∧ W.cell? d = some y) ∧ W.cell? e = some z ∧ W.cell? f = some s ∧ W.cell? g = some t) (hb : Below W.heap.size W w2) : (w2.cell? a = some v ∧ w2.cell? b = some u ∧ w2.cell? c = some x ∧ w2.cell? d = some y) ∧ w2.cell? e = some z ∧ w2.cell? f = some s ∧ w2.cell? g = some t :=
  ⟨keep4 h.1 hb, cell_keep h.2.1 hb, cell_keep h.2.2.1 hb, cell_keep h.2.2.2 hb⟩

set_option maxRecDepth 100000 in
theorem rOf_any {w : World} {b cap : Nat} {P : Pl} (h : RC w b P) (at' : Int) :
    Calls Try.prog 96 #[.agg #[.int .i64 P.rows, .int .i64 P.cols, .slice (some ⟨b, 0, none⟩) P.cells.length cap, .int .i64 P.cursor], .int .i64 at'] w fun e w' => e = .returned (.tuple #[.agg #[.int .i64 (P.ofF at').start, .int .i64 (P.ofF at').len, .int .u8 (P.ofF at').attr], .bool (P.ofB at')]) ∧ Below w.heap.size w w' := by
  have hn := Pl.N_pos h.ok
  have hm := Pl.N_le h.ok
  have hbl := h.bl
  have hfl := flds_len P
  have hsn := starts_le_n P
  rw [← hfl] at hsn
  go_enter Try.func96, Try.ntmps96
  go_wp2_with fail
  refine (rAll_any (h.below (by with_reducible (repeat (first | exact Below.refl _ _ | assumption | (refine Below.setCell ?_ (by first | omega | (simp; done) | (simp; omega)) _) | (refine Below.alloc ?_ (by first | omega | (simp; done) | (simp; omega)) _) | (refine below_drewN ?_ _) | (refine Below.drew ?_) | (refine Below.trans ?_ (Below.mono hb (by first | omega | (simp; done) | (simp; omega)))) | (refine Below.trans ?_ (Below.mono hb1 (by first | omega | (simp; done) | (simp; omega)))) | (refine Below.trans ?_ (Below.mono hb2 (by first | omega | (simp; done) | (simp; omega)))) | (refine Below.trans ?_ (Below.mono hb3 (by first | omega | (simp; done) | (simp; omega)))) | (refine Below.trans ?_ (Below.mono hb4 (by first | omega | (simp; done) | (simp; omega)))) | (refine Below.trans ?_ (Below.mono hb5 (by first | omega | (simp; done) | (simp; omega)))) | (refine Below.trans ?_ (Below.mono hb6 (by first | omega | (simp; done) | (simp; omega)))) | (refine Below.trans ?_ (Below.mono hb7 (by first | omega | (simp; done) | (simp; omega)))) | (refine Below.trans ?_ (Below.mono hb8 (by first | omega | (simp; done) | (simp; omega)))) | (refine Below.trans ?_ (Below.mono hb9 (by first | omega | (simp; done) | (simp; omega)))) | (refine Below.trans ?_ (Below.mono hb10 (by first | omega | (simp; done) | (simp; omega)))) | (refine Below.trans ?_ (Below.mono hb11 (by first | omega | (simp; done) | (simp; omega)))) | (refine Below.trans ?_ (Below.mono hb12 (by first | omega | (simp; done) | (simp; omega))))))))).mono ?_
  rintro e w3 ⟨ga, ca, ra, rfl, hla, hgea, hb3⟩
  have hB3 : Below w.heap.size w w3 := by with_reducible (repeat (first | exact Below.refl _ _ | assumption | (refine Below.setCell ?_ (by first | omega | (simp; done) | (simp; omega)) _) | (refine Below.alloc ?_ (by first | omega | (simp; done) | (simp; omega)) _) | (refine below_drewN ?_ _) | (refine Below.drew ?_) | (refine Below.trans ?_ (Below.mono hb (by first | omega | (simp; done) | (simp; omega)))) | (refine Below.trans ?_ (Below.mono hb1 (by first | omega | (simp; done) | (simp; omega)))) | (refine Below.trans ?_ (Below.mono hb2 (by first | omega | (simp; done) | (simp; omega)))) | (refine Below.trans ?_ (Below.mono hb3 (by first | omega | (simp; done) | (simp; omega)))) | (refine Below.trans ?_ (Below.mono hb4 (by first | omega | (simp; done) | (simp; omega)))) | (refine Below.trans ?_ (Below.mono hb5 (by first | omega | (simp; done) | (simp; omega)))) | (refine Below.trans ?_ (Below.mono hb6 (by first | omega | (simp; done) | (simp; omega)))) | (refine Below.trans ?_ (Below.mono hb7 (by first | omega | (simp; done) | (simp; omega)))) | (refine Below.trans ?_ (Below.mono hb8 (by first | omega | (simp; done) | (simp; omega)))) | (refine Below.trans ?_ (Below.mono hb9 (by first | omega | (simp; done) | (simp; omega)))) | (refine Below.trans ?_ (Below.mono hb10 (by first | omega | (simp; done) | (simp; omega)))) | (refine Below.trans ?_ (Below.mono hb11 (by first | omega | (simp; done) | (simp; omega)))) | (refine Below.trans ?_ (Below.mono hb12 (by first | omega | (simp; done) | (simp; omega))))))
  have hz3 := hb3.size
  simp only [World.size_alloc] at hgea hz3
  have x0 : w3.cell? ⟨w.heap.size, 0, none⟩ = some (.int .i64 P.rows) := (hb3.cell (p := ⟨w.heap.size, 0, none⟩) (by simp; omega)).trans (by simp [go_sem])
  have x1 : w3.cell? ⟨w.heap.size, 1, none⟩ = some (.int .i64 P.cols) := (hb3.cell (p := ⟨w.heap.size, 1, none⟩) (by simp; omega)).trans (by simp [go_sem])
  have x2 : w3.cell? ⟨w.heap.size, 2, none⟩ = some (.slice (some ⟨b, 0, none⟩) P.cells.length cap) := (hb3.cell (p := ⟨w.heap.size, 2, none⟩) (by simp; omega)).trans (by simp [go_sem])
  have x3 : w3.cell? ⟨w.heap.size, 3, none⟩ = some (.int .i64 P.cursor) := (hb3.cell (p := ⟨w.heap.size, 3, none⟩) (by simp; omega)).trans (by simp [go_sem])
  have y0 : w3.cell? ⟨w.heap.size + 1, 0, none⟩ = some (.int .i64 0) := (hb3.cell (p := ⟨w.heap.size + 1, 0, none⟩) (by simp)).trans (by simp [go_sem])
  have y1 : w3.cell? ⟨w.heap.size + 1, 1, none⟩ = some (.int .i64 0) := (hb3.cell (p := ⟨w.heap.size + 1, 1, none⟩) (by simp)).trans (by simp [go_sem])
  have y2 : w3.cell? ⟨w.heap.size + 1, 2, none⟩ = some (.int .u8 0) := (hb3.cell (p := ⟨w.heap.size + 1, 2, none⟩) (by simp)).trans (by simp [go_sem])
  have z0 : w3.frozen? ⟨w.heap.size + 1, 0, none⟩ = false := (hb3.frozen (p := ⟨w.heap.size + 1, 0, none⟩) (by simp)).trans (by simp [go_sem])
  have z1 : w3.frozen? ⟨w.heap.size + 1, 1, none⟩ = false := (hb3.frozen (p := ⟨w.heap.size + 1, 1, none⟩) (by simp)).trans (by simp [go_sem])
  have z2 : w3.frozen? ⟨w.heap.size + 1, 2, none⟩ = false := (hb3.frozen (p := ⟨w.heap.size + 1, 2, none⟩) (by simp)).trans (by simp [go_sem])
  clear hb3
  have HX := Lib.hid (And.intro (And.intro x0 (And.intro x1 (And.intro x2 x3))) (And.intro (And.intro y0 (And.intro y1 y2)) (And.intro z0 (And.intro z1 z2))))
  clear x0 x1 x2 x3 y0 y1 y2 z0 z1 z2
  go_wp2
  go_loopw [7] (fun i wr => ∃ k : Nat, k ≤ P.flds.length ∧ i = .int .i64 (k : Int) ∧ Below w3.heap.size w3 wr ∧ ∀ (j : Nat) (hj : j < P.starts.length), j < k → ¬ P.ofs P.starts[j] at') (fun i _ => P.flds.length - (intOf i).toNat)
  case atStart => exact ⟨0, Nat.zero_le _, rfl, Below.refl _ _, fun j _ hj => absurd hj (Nat.not_lt_zero _)⟩
  case round =>
    obtain ⟨k, hk, rfl, hB, hf⟩ := hrel
    have HF := Lib.hid hf
    clear hf
    obtain ⟨⟨x0, x1, x2, x3⟩, ⟨y0, y1, y2⟩, z0, z1, z2⟩ := HX.out
    have hzB := hB.size
    have hBw : Below w.heap.size w wr := hB3.trans (hB.mono (by omega))
    replace x0 := cell_keep x0 hB
    replace x1 := cell_keep x1 hB
    replace x2 := cell_keep x2 hB
    replace x3 := cell_keep x3 hB
    by_cases hlt : k < P.flds.length
    · have hlt' : (k : Int) < (P.flds.length : Int) := by omega
      have hlt2 : k < P.starts.length := by omega
      obtain ⟨s0, s1, l0, l1, a0, a1⟩ := fld_ok h.ok k hlt
      obtain ⟨f0, f1, f2⟩ := fcl_get ((hB.block ga (lt_of_block hla)).trans hla) k hlt
      have hEF := flds_at P k hlt
      have hmem := (P.starts_mem (List.getElem_mem hlt2)).1
      obtain ⟨f, hfe⟩ : ∃ f, P.flds[k] = f := ⟨_, rfl⟩
      obtain ⟨s, hse⟩ : ∃ s, P.starts[k] = s := ⟨_, rfl⟩
      have HFOUND : Hid (P.ofs s at' → P.ofF at' = f ∧ P.ofB at' = true) := by
        rw [← hfe, ← hse]; exact Lib.hid (of_found h.ok hlt)
      rw [hse] at hmem
      rw [hfe] at s0 s1 l0 l1 a0 a1 f0 f1 f2
      rw [hfe, hse] at hEF
      have HE := Lib.hid hEF
      have HFE := Lib.hid hfe
      have HS := Lib.hid hse
      clear hEF hfe hse
      by_cases hst : f.start = at'
      · obtain ⟨E1, E2⟩ := HFOUND.out (ofs_start P s hmem at' (by rw [← HE.out]; exact l0) (by rw [← HE.out]; exact hst))
        have E1' := Lib.hid E1
        have E2' := Lib.hid E2
        clear E1 E2
        replace y0 := cell_keep y0 hB
        replace y1 := cell_keep y1 hB
        replace y2 := cell_keep y2 hB
        replace z0 := (hB.frozen (p := ⟨w.heap.size + 1, 0, none⟩) (by simp; omega)).trans z0
        replace z1 := (hB.frozen (p := ⟨w.heap.size + 1, 1, none⟩) (by simp; omega)).trans z1
        replace z2 := (hB.frozen (p := ⟨w.heap.size + 1, 2, none⟩) (by simp; omega)).trans z2
        go_wp2
        exact bodyPost_ret (v := .tuple #[.agg #[.int .i64 at', .int .i64 f.len, .int .u8 f.attr], .bool true]) (by simp [results, Try.results96, go_sem, y0, y1, y2]) rfl ⟨by rw [E1'.out, E2'.out, hst], ((hB3.trans (hB.mono (by omega))).setCell (by simp) _).setCell (by simp) _ |>.setCell (by simp) _⟩
      · go_wp2
        go_region_held3 (fun W => (W.cell? ⟨w.heap.size, 0, none⟩ = some (.int .i64 P.rows) ∧ W.cell? ⟨w.heap.size, 1, none⟩ = some (.int .i64 P.cols) ∧ W.cell? ⟨w.heap.size, 2, none⟩ = some (.slice (some ⟨b, 0, none⟩) P.cells.length cap) ∧ W.cell? ⟨w.heap.size, 3, none⟩ = some (.int .i64 P.cursor)) ∧ W.cell? ⟨ga, k * 3, none⟩ = some (.int .i64 f.start) ∧ W.cell? ⟨ga, k * 3 + 1, none⟩ = some (.int .i64 f.len) ∧ W.cell? ⟨ga, k * 3 + 2, none⟩ = some (.int .u8 f.attr))
          (first | go_keep | exact keep4f (by assumption) hb5) (first | (go_at_call 159; refine (rPlaces_any (h.below (by with_reducible (repeat (first | exact Below.refl _ _ | assumption | (refine Below.setCell ?_ (by first | omega | (simp; done) | (simp; omega)) _) | (refine Below.alloc ?_ (by first | omega | (simp; done) | (simp; omega)) _) | (refine below_drewN ?_ _) | (refine Below.drew ?_) | (refine Below.trans ?_ (Below.mono hb (by first | omega | (simp; done) | (simp; omega)))) | (refine Below.trans ?_ (Below.mono hb1 (by first | omega | (simp; done) | (simp; omega)))) | (refine Below.trans ?_ (Below.mono hb2 (by first | omega | (simp; done) | (simp; omega)))) | (refine Below.trans ?_ (Below.mono hb3 (by first | omega | (simp; done) | (simp; omega)))) | (refine Below.trans ?_ (Below.mono hb4 (by first | omega | (simp; done) | (simp; omega)))) | (refine Below.trans ?_ (Below.mono hb5 (by first | omega | (simp; done) | (simp; omega)))) | (refine Below.trans ?_ (Below.mono hb6 (by first | omega | (simp; done) | (simp; omega)))) | (refine Below.trans ?_ (Below.mono hb7 (by first | omega | (simp; done) | (simp; omega)))) | (refine Below.trans ?_ (Below.mono hb8 (by first | omega | (simp; done) | (simp; omega)))) | (refine Below.trans ?_ (Below.mono hb9 (by first | omega | (simp; done) | (simp; omega)))) | (refine Below.trans ?_ (Below.mono hb10 (by first | omega | (simp; done) | (simp; omega)))) | (refine Below.trans ?_ (Below.mono hb11 (by first | omega | (simp; done) | (simp; omega)))) | (refine Below.trans ?_ (Below.mono hb12 (by first | omega | (simp; done) | (simp; omega)))))))) f s0 s1 l0 (by omega)).mono ?_; rintro e w5 ⟨gp, cp, rp, rfl, hlp, hgep, hb5⟩))
        have hB5 : Below w3.heap.size w3 w5 := by with_reducible (repeat (first | exact Below.refl _ _ | assumption | (refine Below.setCell ?_ (by first | omega | (simp; done) | (simp; omega)) _) | (refine Below.alloc ?_ (by first | omega | (simp; done) | (simp; omega)) _) | (refine below_drewN ?_ _) | (refine Below.drew ?_) | (refine Below.trans ?_ (Below.mono hb (by first | omega | (simp; done) | (simp; omega)))) | (refine Below.trans ?_ (Below.mono hb1 (by first | omega | (simp; done) | (simp; omega)))) | (refine Below.trans ?_ (Below.mono hb2 (by first | omega | (simp; done) | (simp; omega)))) | (refine Below.trans ?_ (Below.mono hb3 (by first | omega | (simp; done) | (simp; omega)))) | (refine Below.trans ?_ (Below.mono hb4 (by first | omega | (simp; done) | (simp; omega)))) | (refine Below.trans ?_ (Below.mono hb5 (by first | omega | (simp; done) | (simp; omega)))) | (refine Below.trans ?_ (Below.mono hb6 (by first | omega | (simp; done) | (simp; omega)))) | (refine Below.trans ?_ (Below.mono hb7 (by first | omega | (simp; done) | (simp; omega)))) | (refine Below.trans ?_ (Below.mono hb8 (by first | omega | (simp; done) | (simp; omega)))) | (refine Below.trans ?_ (Below.mono hb9 (by first | omega | (simp; done) | (simp; omega)))) | (refine Below.trans ?_ (Below.mono hb10 (by first | omega | (simp; done) | (simp; omega)))) | (refine Below.trans ?_ (Below.mono hb11 (by first | omega | (simp; done) | (simp; omega)))) | (refine Below.trans ?_ (Below.mono hb12 (by first | omega | (simp; done) | (simp; omega))))))
        have hBw5 : Below w.heap.size w w5 := by with_reducible (repeat (first | exact Below.refl _ _ | assumption | (refine Below.setCell ?_ (by first | omega | (simp; done) | (simp; omega)) _) | (refine Below.alloc ?_ (by first | omega | (simp; done) | (simp; omega)) _) | (refine below_drewN ?_ _) | (refine Below.drew ?_) | (refine Below.trans ?_ (Below.mono hb (by first | omega | (simp; done) | (simp; omega)))) | (refine Below.trans ?_ (Below.mono hb1 (by first | omega | (simp; done) | (simp; omega)))) | (refine Below.trans ?_ (Below.mono hb2 (by first | omega | (simp; done) | (simp; omega)))) | (refine Below.trans ?_ (Below.mono hb3 (by first | omega | (simp; done) | (simp; omega)))) | (refine Below.trans ?_ (Below.mono hb4 (by first | omega | (simp; done) | (simp; omega)))) | (refine Below.trans ?_ (Below.mono hb5 (by first | omega | (simp; done) | (simp; omega)))) | (refine Below.trans ?_ (Below.mono hb6 (by first | omega | (simp; done) | (simp; omega)))) | (refine Below.trans ?_ (Below.mono hb7 (by first | omega | (simp; done) | (simp; omega)))) | (refine Below.trans ?_ (Below.mono hb8 (by first | omega | (simp; done) | (simp; omega)))) | (refine Below.trans ?_ (Below.mono hb9 (by first | omega | (simp; done) | (simp; omega)))) | (refine Below.trans ?_ (Below.mono hb10 (by first | omega | (simp; done) | (simp; omega)))) | (refine Below.trans ?_ (Below.mono hb11 (by first | omega | (simp; done) | (simp; omega)))) | (refine Below.trans ?_ (Below.mono hb12 (by first | omega | (simp; done) | (simp; omega))))))
        have hz5 := hB5.size
        clear hb5 hgep x0 x1 x2 x3 f0 f1 f2
        rw [P.plc_len]
        have hfl2 : ((f.len.toNat : Nat) : Int) = f.len := by omega
        go_wp2
        go_loopw [9] (fun i wq => ∃ m : Nat, (m : Int) ≤ f.len ∧ i = .int .i64 (m : Int) ∧ Below w5.heap.size w5 wq ∧ ∀ j : Nat, j < m → (f.start + ((j : Int) + 1)) % (P.cells.length : Int) ≠ at') (fun i _ => f.len.toNat - (intOf i).toNat)
        case atStart => exact ⟨0, l0, rfl, Below.refl _ _, fun j hj => absurd hj (Nat.not_lt_zero _)⟩
        case round =>
          obtain ⟨m, hm', rfl, hBq, hg⟩ := hrel
          have HG := Lib.hid hg
          clear hg
          have hBq3 : Below w3.heap.size w3 _ := hB5.trans (hBq.mono (by omega))
          by_cases hmlt : (m : Int) < f.len
          · have c0 := ints_get ((hBq.block gp (lt_of_block hlp)).trans hlp) m (by rw [P.plc_len]; omega)
            rw [P.plc_get] at c0
            obtain ⟨q, hq⟩ : ∃ q, (f.start + ((m : Int) + 1)) % (P.cells.length : Int) = q := ⟨_, rfl⟩
            rw [hq] at c0
            have HQ := Lib.hid hq
            clear hq
            by_cases hqa : q = at'
            · obtain ⟨E1, E2⟩ := HFOUND.out (ofs_plc P s at' m (by rw [← HE.out]; exact hmlt) (by rw [← HE.out, HQ.out, hqa]))
              have E1' := Lib.hid E1
              have E2' := Lib.hid E2
              clear E1 E2
              replace y0 := cell_keep y0 hBq3
              replace y1 := cell_keep y1 hBq3
              replace y2 := cell_keep y2 hBq3
              replace z0 := (hBq3.frozen (p := ⟨w.heap.size + 1, 0, none⟩) (by simp; omega)).trans z0
              replace z1 := (hBq3.frozen (p := ⟨w.heap.size + 1, 1, none⟩) (by simp; omega)).trans z1
              replace z2 := (hBq3.frozen (p := ⟨w.heap.size + 1, 2, none⟩) (by simp; omega)).trans z2
              have hff := fcl_get ((hBq3.block ga (lt_of_block hla)).trans hla) k hlt
              rw [HFE.out] at hff
              obtain ⟨f0, f1, f2⟩ := hff
              have hfst := Lib.hid hst
              clear hst
              go_wp2
              exact bodyPost_ret (v := .tuple #[.agg #[.int .i64 f.start, .int .i64 f.len, .int .u8 f.attr], .bool true]) (by simp [results, Try.results96, go_sem, y0, y1, y2]) rfl ⟨by rw [E1'.out, E2'.out], (((hB3.trans (hBq3.mono (by omega))).setCell (by simp) _).setCell (by simp) _).setCell (by simp) _⟩
            · go_wp2
              go_roundw
              case rel => exact ⟨m + 1, by omega, by go_num, hBq, fun j hj => by rcases Nat.lt_succ_iff_lt_or_eq.1 hj with hj | rfl; exact HG.out j hj; rw [HQ.out]; exact hqa⟩
              case measure => simp [intOf]; omega
          · go_wp2
            go_roundw
            case rel =>
              refine ⟨k + 1, by omega, by go_num, hBq3, fun j hj hjk => ?_⟩
              rcases Nat.lt_succ_iff_lt_or_eq.1 hjk with hjk | rfl
              · exact HF.out j hj hjk
              · rw [HS.out]
                refine not_ofs P s hmem at' (by rw [← HE.out]; exact hst) (fun m2 hm2 => ?_)
                rw [← HE.out] at hm2 ⊢
                exact HG.out m2 (by omega)
            case measure => simp [intOf]; omega
    · obtain ⟨E1, E2⟩ := of_none h.ok (fun j hj => HF.out j hj (by omega))
      have E1' := Lib.hid E1
      have E2' := Lib.hid E2
      clear E1 E2
      replace y0 := cell_keep y0 hB
      replace y1 := cell_keep y1 hB
      replace y2 := cell_keep y2 hB
      replace z0 := (hB.frozen (p := ⟨w.heap.size + 1, 0, none⟩) (by simp; omega)).trans z0
      replace z1 := (hB.frozen (p := ⟨w.heap.size + 1, 1, none⟩) (by simp; omega)).trans z1
      replace z2 := (hB.frozen (p := ⟨w.heap.size + 1, 2, none⟩) (by simp; omega)).trans z2
      go_wp2
      exact bodyPost_ret (v := .tuple #[.agg #[.int .i64 0, .int .i64 0, .int .u8 0], .bool false]) (by simp [results, Try.results96, go_sem, y0, y1, y2]) rfl ⟨by rw [E1'.out, E2'.out], ((hBw.setCell (by simp) _).setCell (by simp) _).setCell (by simp) _⟩
end Go.Proofs.Ytbkddgeocmkegaa

namespace Go.Proofs.Ytbkddgeocmkegaa
open Go.RowKit Go.Shelf
set_option linter.unusedSimpArgs false
set_option linter.unusedVariables false
set_option maxHeartbeats 2000000
attribute [local go_sem ↓] run_start run_byte run_cols

theorem openAt_out {P : Pl} (i : Int) (h : P.inB i = false) : P.openAt i = false := by
  have h' := of_decide_eq_false h
  have e : P.before i = -1 := Pl.look_out h'
  unfold Pl.openAt Pl.ofB
  rw [e]
  simpa using h

theorem box4k {w wr : World} {x0 x1 x2 x3 : Value} {T : TypeId} (h : Below (w.alloc (.cells #[x0, x1, x2, x3] T)).heap.size (w.alloc (.cells #[x0, x1, x2, x3] T)) wr) :
    wr.cell? ⟨w.heap.size, 0, none⟩ = some x0 ∧ wr.cell? ⟨w.heap.size, 1, none⟩ = some x1 ∧ wr.cell? ⟨w.heap.size, 2, none⟩ = some x2 ∧ wr.cell? ⟨w.heap.size, 3, none⟩ = some x3 := box4 (by simpa using h)

theorem rOpen_any {w : World} {b cap : Nat} {P : Pl} (h : RC w b P) (i : Int) :
    Calls Try.prog 97 #[.agg #[.int .i64 P.rows, .int .i64 P.cols, .slice (some ⟨b, 0, none⟩) P.cells.length cap, .int .i64 P.cursor], .int .i64 i] w fun e w' => e = .returned (.bool (P.openAt i)) ∧ Below w.heap.size w w' := by
  have ha := P.ofF_attr i
  cases hI : P.inB i
  · have E := Lib.hid (openAt_out i hI)
    go_enter Try.func97, Try.ntmps97
    go_wp2_with fail
    refine (rHas_any (P := P) (b := b) (cap := cap) _).mono ?_
    rintro e w1 ⟨rfl, hb1⟩
    have hz1 := hb1.size
    try simp only [World.size_alloc, World.size_drew, World.size_setCell] at hz1
    obtain ⟨hc1, hf1⟩ := bcell hb1
    go_wp2
    go_ret
    exact ⟨by rw [E.out]; rfl, by with_reducible (repeat (first | exact Below.refl _ _ | assumption | (refine Below.setCell ?_ (by first | omega | (simp; done) | (simp; omega)) _) | (refine Below.alloc ?_ (by first | omega | (simp; done) | (simp; omega)) _) | (refine below_drewN ?_ _) | (refine Below.drew ?_) | (refine Below.trans ?_ (Below.mono hb (by first | omega | (simp; done) | (simp; omega)))) | (refine Below.trans ?_ (Below.mono hb1 (by first | omega | (simp; done) | (simp; omega)))) | (refine Below.trans ?_ (Below.mono hb2 (by first | omega | (simp; done) | (simp; omega)))) | (refine Below.trans ?_ (Below.mono hb3 (by first | omega | (simp; done) | (simp; omega)))) | (refine Below.trans ?_ (Below.mono hb4 (by first | omega | (simp; done) | (simp; omega)))) | (refine Below.trans ?_ (Below.mono hb5 (by first | omega | (simp; done) | (simp; omega)))) | (refine Below.trans ?_ (Below.mono hb6 (by first | omega | (simp; done) | (simp; omega)))) | (refine Below.trans ?_ (Below.mono hb7 (by first | omega | (simp; done) | (simp; omega)))) | (refine Below.trans ?_ (Below.mono hb8 (by first | omega | (simp; done) | (simp; omega)))) | (refine Below.trans ?_ (Below.mono hb9 (by first | omega | (simp; done) | (simp; omega)))) | (refine Below.trans ?_ (Below.mono hb10 (by first | omega | (simp; done) | (simp; omega)))) | (refine Below.trans ?_ (Below.mono hb11 (by first | omega | (simp; done) | (simp; omega)))) | (refine Below.trans ?_ (Below.mono hb12 (by first | omega | (simp; done) | (simp; omega))))))⟩
  · cases hB : P.ofB i
    · have E := Lib.hid (show P.openAt i = true by unfold Pl.openAt; rw [hB]; exact hI)
      go_enter Try.func97, Try.ntmps97
      go_wp2_with fail
      refine (rHas_any (P := P) (b := b) (cap := cap) _).mono ?_
      rintro e w1 ⟨rfl, hb1⟩
      have hz1 := hb1.size
      try simp only [World.size_alloc, World.size_drew, World.size_setCell] at hz1
      obtain ⟨hc1, hf1⟩ := bcell hb1
      obtain ⟨x0, x1, x2, x3⟩ := box4k hb1
      go_wp2_with fail
      refine (rOf_any (h.below (by with_reducible (repeat (first | exact Below.refl _ _ | assumption | (refine Below.setCell ?_ (by first | omega | (simp; done) | (simp; omega)) _) | (refine Below.alloc ?_ (by first | omega | (simp; done) | (simp; omega)) _) | (refine below_drewN ?_ _) | (refine Below.drew ?_) | (refine Below.trans ?_ (Below.mono hb (by first | omega | (simp; done) | (simp; omega)))) | (refine Below.trans ?_ (Below.mono hb1 (by first | omega | (simp; done) | (simp; omega)))) | (refine Below.trans ?_ (Below.mono hb2 (by first | omega | (simp; done) | (simp; omega)))) | (refine Below.trans ?_ (Below.mono hb3 (by first | omega | (simp; done) | (simp; omega)))) | (refine Below.trans ?_ (Below.mono hb4 (by first | omega | (simp; done) | (simp; omega)))) | (refine Below.trans ?_ (Below.mono hb5 (by first | omega | (simp; done) | (simp; omega)))) | (refine Below.trans ?_ (Below.mono hb6 (by first | omega | (simp; done) | (simp; omega)))) | (refine Below.trans ?_ (Below.mono hb7 (by first | omega | (simp; done) | (simp; omega)))) | (refine Below.trans ?_ (Below.mono hb8 (by first | omega | (simp; done) | (simp; omega)))) | (refine Below.trans ?_ (Below.mono hb9 (by first | omega | (simp; done) | (simp; omega)))) | (refine Below.trans ?_ (Below.mono hb10 (by first | omega | (simp; done) | (simp; omega)))) | (refine Below.trans ?_ (Below.mono hb11 (by first | omega | (simp; done) | (simp; omega)))) | (refine Below.trans ?_ (Below.mono hb12 (by first | omega | (simp; done) | (simp; omega)))))))) _).mono ?_
      rintro e w2 ⟨rfl, hb2⟩
      replace hb2 := Below.trans hb1 (Below.mono hb2 hb1.size)
      clear hc1 hf1
      have hz2 := hb2.size
      try simp only [World.size_alloc, World.size_drew, World.size_setCell] at hz2
      obtain ⟨hc2, hf2⟩ := bcell hb2
      go_wp2
      go_ret
      exact ⟨by rw [E.out]; rfl, by with_reducible (repeat (first | exact Below.refl _ _ | assumption | (refine Below.setCell ?_ (by first | omega | (simp; done) | (simp; omega)) _) | (refine Below.alloc ?_ (by first | omega | (simp; done) | (simp; omega)) _) | (refine below_drewN ?_ _) | (refine Below.drew ?_) | (refine Below.trans ?_ (Below.mono hb (by first | omega | (simp; done) | (simp; omega)))) | (refine Below.trans ?_ (Below.mono hb1 (by first | omega | (simp; done) | (simp; omega)))) | (refine Below.trans ?_ (Below.mono hb2 (by first | omega | (simp; done) | (simp; omega)))) | (refine Below.trans ?_ (Below.mono hb3 (by first | omega | (simp; done) | (simp; omega)))) | (refine Below.trans ?_ (Below.mono hb4 (by first | omega | (simp; done) | (simp; omega)))) | (refine Below.trans ?_ (Below.mono hb5 (by first | omega | (simp; done) | (simp; omega)))) | (refine Below.trans ?_ (Below.mono hb6 (by first | omega | (simp; done) | (simp; omega)))) | (refine Below.trans ?_ (Below.mono hb7 (by first | omega | (simp; done) | (simp; omega)))) | (refine Below.trans ?_ (Below.mono hb8 (by first | omega | (simp; done) | (simp; omega)))) | (refine Below.trans ?_ (Below.mono hb9 (by first | omega | (simp; done) | (simp; omega)))) | (refine Below.trans ?_ (Below.mono hb10 (by first | omega | (simp; done) | (simp; omega)))) | (refine Below.trans ?_ (Below.mono hb11 (by first | omega | (simp; done) | (simp; omega)))) | (refine Below.trans ?_ (Below.mono hb12 (by first | omega | (simp; done) | (simp; omega))))))⟩
    · have E := Lib.hid (show P.openAt i = ((P.ofF i).start != i && !prot (P.ofF i).attr) by unfold Pl.openAt; rw [hB]; rfl)
      by_cases hs : (P.ofF i).start = i
      · have hs' : ((P.ofF i).start != i) = false := by rw [hs]; simp
        have HS := Lib.hid hs'
        go_enter Try.func97, Try.ntmps97
        go_wp2_with fail
        refine (rHas_any (P := P) (b := b) (cap := cap) _).mono ?_
        rintro e w1 ⟨rfl, hb1⟩
        have hz1 := hb1.size
        try simp only [World.size_alloc, World.size_drew, World.size_setCell] at hz1
        obtain ⟨hc1, hf1⟩ := bcell hb1
        obtain ⟨x0, x1, x2, x3⟩ := box4k hb1
        go_wp2_with fail
        refine (rOf_any (h.below (by with_reducible (repeat (first | exact Below.refl _ _ | assumption | (refine Below.setCell ?_ (by first | omega | (simp; done) | (simp; omega)) _) | (refine Below.alloc ?_ (by first | omega | (simp; done) | (simp; omega)) _) | (refine below_drewN ?_ _) | (refine Below.drew ?_) | (refine Below.trans ?_ (Below.mono hb (by first | omega | (simp; done) | (simp; omega)))) | (refine Below.trans ?_ (Below.mono hb1 (by first | omega | (simp; done) | (simp; omega)))) | (refine Below.trans ?_ (Below.mono hb2 (by first | omega | (simp; done) | (simp; omega)))) | (refine Below.trans ?_ (Below.mono hb3 (by first | omega | (simp; done) | (simp; omega)))) | (refine Below.trans ?_ (Below.mono hb4 (by first | omega | (simp; done) | (simp; omega)))) | (refine Below.trans ?_ (Below.mono hb5 (by first | omega | (simp; done) | (simp; omega)))) | (refine Below.trans ?_ (Below.mono hb6 (by first | omega | (simp; done) | (simp; omega)))) | (refine Below.trans ?_ (Below.mono hb7 (by first | omega | (simp; done) | (simp; omega)))) | (refine Below.trans ?_ (Below.mono hb8 (by first | omega | (simp; done) | (simp; omega)))) | (refine Below.trans ?_ (Below.mono hb9 (by first | omega | (simp; done) | (simp; omega)))) | (refine Below.trans ?_ (Below.mono hb10 (by first | omega | (simp; done) | (simp; omega)))) | (refine Below.trans ?_ (Below.mono hb11 (by first | omega | (simp; done) | (simp; omega)))) | (refine Below.trans ?_ (Below.mono hb12 (by first | omega | (simp; done) | (simp; omega)))))))) _).mono ?_
        rintro e w2 ⟨rfl, hb2⟩
        replace hb2 := Below.trans hb1 (Below.mono hb2 hb1.size)
        clear hc1 hf1
        have hz2 := hb2.size
        try simp only [World.size_alloc, World.size_drew, World.size_setCell] at hz2
        obtain ⟨hc2, hf2⟩ := bcell hb2
        go_wp2
        go_ret
        exact ⟨by rw [E.out, HS.out]; rfl, by with_reducible (repeat (first | exact Below.refl _ _ | assumption | (refine Below.setCell ?_ (by first | omega | (simp; done) | (simp; omega)) _) | (refine Below.alloc ?_ (by first | omega | (simp; done) | (simp; omega)) _) | (refine below_drewN ?_ _) | (refine Below.drew ?_) | (refine Below.trans ?_ (Below.mono hb (by first | omega | (simp; done) | (simp; omega)))) | (refine Below.trans ?_ (Below.mono hb1 (by first | omega | (simp; done) | (simp; omega)))) | (refine Below.trans ?_ (Below.mono hb2 (by first | omega | (simp; done) | (simp; omega)))) | (refine Below.trans ?_ (Below.mono hb3 (by first | omega | (simp; done) | (simp; omega)))) | (refine Below.trans ?_ (Below.mono hb4 (by first | omega | (simp; done) | (simp; omega)))) | (refine Below.trans ?_ (Below.mono hb5 (by first | omega | (simp; done) | (simp; omega)))) | (refine Below.trans ?_ (Below.mono hb6 (by first | omega | (simp; done) | (simp; omega)))) | (refine Below.trans ?_ (Below.mono hb7 (by first | omega | (simp; done) | (simp; omega)))) | (refine Below.trans ?_ (Below.mono hb8 (by first | omega | (simp; done) | (simp; omega)))) | (refine Below.trans ?_ (Below.mono hb9 (by first | omega | (simp; done) | (simp; omega)))) | (refine Below.trans ?_ (Below.mono hb10 (by first | omega | (simp; done) | (simp; omega)))) | (refine Below.trans ?_ (Below.mono hb11 (by first | omega | (simp; done) | (simp; omega)))) | (refine Below.trans ?_ (Below.mono hb12 (by first | omega | (simp; done) | (simp; omega))))))⟩
      · have hs' : ((P.ofF i).start != i) = true := by simpa using hs
        go_enter Try.func97, Try.ntmps97
        go_wp2_with fail
        refine (rHas_any (P := P) (b := b) (cap := cap) _).mono ?_
        rintro e w1 ⟨rfl, hb1⟩
        have hz1 := hb1.size
        try simp only [World.size_alloc, World.size_drew, World.size_setCell] at hz1
        obtain ⟨hc1, hf1⟩ := bcell hb1
        obtain ⟨x0, x1, x2, x3⟩ := box4k hb1
        go_wp2_with fail
        refine (rOf_any (h.below (by with_reducible (repeat (first | exact Below.refl _ _ | assumption | (refine Below.setCell ?_ (by first | omega | (simp; done) | (simp; omega)) _) | (refine Below.alloc ?_ (by first | omega | (simp; done) | (simp; omega)) _) | (refine below_drewN ?_ _) | (refine Below.drew ?_) | (refine Below.trans ?_ (Below.mono hb (by first | omega | (simp; done) | (simp; omega)))) | (refine Below.trans ?_ (Below.mono hb1 (by first | omega | (simp; done) | (simp; omega)))) | (refine Below.trans ?_ (Below.mono hb2 (by first | omega | (simp; done) | (simp; omega)))) | (refine Below.trans ?_ (Below.mono hb3 (by first | omega | (simp; done) | (simp; omega)))) | (refine Below.trans ?_ (Below.mono hb4 (by first | omega | (simp; done) | (simp; omega)))) | (refine Below.trans ?_ (Below.mono hb5 (by first | omega | (simp; done) | (simp; omega)))) | (refine Below.trans ?_ (Below.mono hb6 (by first | omega | (simp; done) | (simp; omega)))) | (refine Below.trans ?_ (Below.mono hb7 (by first | omega | (simp; done) | (simp; omega)))) | (refine Below.trans ?_ (Below.mono hb8 (by first | omega | (simp; done) | (simp; omega)))) | (refine Below.trans ?_ (Below.mono hb9 (by first | omega | (simp; done) | (simp; omega)))) | (refine Below.trans ?_ (Below.mono hb10 (by first | omega | (simp; done) | (simp; omega)))) | (refine Below.trans ?_ (Below.mono hb11 (by first | omega | (simp; done) | (simp; omega)))) | (refine Below.trans ?_ (Below.mono hb12 (by first | omega | (simp; done) | (simp; omega)))))))) _).mono ?_
        rintro e w2 ⟨rfl, hb2⟩
        replace hb2 := Below.trans hb1 (Below.mono hb2 hb1.size)
        clear hc1 hf1
        have hz2 := hb2.size
        try simp only [World.size_alloc, World.size_drew, World.size_setCell] at hz2
        obtain ⟨hc2, hf2⟩ := bcell hb2
        clear hc2 hf2
        go_wp2_with fail
        refine (rBit_in _ _ _ ha (by omega)).mono ?_
        rintro e w3 ⟨rfl, hb3⟩
        have hz3 := hb3.size
        try simp only [World.size_alloc, World.size_drew, World.size_setCell] at hz3
        obtain ⟨hc3, hf3⟩ := bcell hb3
        go_wp2
        go_ret
        exact ⟨by rw [E.out, hs', bit_prot]; rfl, by with_reducible (repeat (first | exact Below.refl _ _ | assumption | (refine Below.setCell ?_ (by first | omega | (simp; done) | (simp; omega)) _) | (refine Below.alloc ?_ (by first | omega | (simp; done) | (simp; omega)) _) | (refine below_drewN ?_ _) | (refine Below.drew ?_) | (refine Below.trans ?_ (Below.mono hb (by first | omega | (simp; done) | (simp; omega)))) | (refine Below.trans ?_ (Below.mono hb1 (by first | omega | (simp; done) | (simp; omega)))) | (refine Below.trans ?_ (Below.mono hb2 (by first | omega | (simp; done) | (simp; omega)))) | (refine Below.trans ?_ (Below.mono hb3 (by first | omega | (simp; done) | (simp; omega)))) | (refine Below.trans ?_ (Below.mono hb4 (by first | omega | (simp; done) | (simp; omega)))) | (refine Below.trans ?_ (Below.mono hb5 (by first | omega | (simp; done) | (simp; omega)))) | (refine Below.trans ?_ (Below.mono hb6 (by first | omega | (simp; done) | (simp; omega)))) | (refine Below.trans ?_ (Below.mono hb7 (by first | omega | (simp; done) | (simp; omega)))) | (refine Below.trans ?_ (Below.mono hb8 (by first | omega | (simp; done) | (simp; omega)))) | (refine Below.trans ?_ (Below.mono hb9 (by first | omega | (simp; done) | (simp; omega)))) | (refine Below.trans ?_ (Below.mono hb10 (by first | omega | (simp; done) | (simp; omega)))) | (refine Below.trans ?_ (Below.mono hb11 (by first | omega | (simp; done) | (simp; omega)))) | (refine Below.trans ?_ (Below.mono hb12 (by first | omega | (simp; done) | (simp; omega))))))⟩

theorem home_none {P : Pl} (h : ∀ (j : Nat) (hj : j < P.flds.length), Pl.homeF P.flds[j] = false) : P.home = 0 := by unfold Pl.home; rw [find_none h]
theorem home_some {P : Pl} {k : Nat} (hk : k < P.flds.length) (hp : Pl.homeF P.flds[k] = true) (h : ∀ (j : Nat) (hj : j < P.flds.length), j < k → Pl.homeF P.flds[j] = false) : P.home = (P.flds[k].start + 1) % (P.cells.length : Int) := by unfold Pl.home; rw [find_some hk hp h]

set_option maxRecDepth 100000 in
theorem rHome_any {w : World} {b cap : Nat} {P : Pl} (h : RC w b P) :
    Calls Try.prog 39 #[.agg #[.int .i64 P.rows, .int .i64 P.cols, .slice (some ⟨b, 0, none⟩) P.cells.length cap, .int .i64 P.cursor]] w fun e w' => e = .returned (.int .i64 P.home) ∧ Below w.heap.size w w' := by
  have hn := Pl.N_pos h.ok
  have hm := Pl.N_le h.ok
  have hbl := h.bl
  have hfl := flds_len P
  have hsn := starts_le_n P
  rw [← hfl] at hsn
  go_enter Try.func39, Try.ntmps39
  go_wp2_with fail
  refine (rAll_any (h.below (by with_reducible (repeat (first | exact Below.refl _ _ | assumption | (refine Below.setCell ?_ (by first | omega | (simp; done) | (simp; omega)) _) | (refine Below.alloc ?_ (by first | omega | (simp; done) | (simp; omega)) _) | (refine below_drewN ?_ _) | (refine Below.drew ?_) | (refine Below.trans ?_ (Below.mono hb (by first | omega | (simp; done) | (simp; omega)))) | (refine Below.trans ?_ (Below.mono hb1 (by first | omega | (simp; done) | (simp; omega)))) | (refine Below.trans ?_ (Below.mono hb2 (by first | omega | (simp; done) | (simp; omega)))) | (refine Below.trans ?_ (Below.mono hb3 (by first | omega | (simp; done) | (simp; omega)))) | (refine Below.trans ?_ (Below.mono hb4 (by first | omega | (simp; done) | (simp; omega)))) | (refine Below.trans ?_ (Below.mono hb5 (by first | omega | (simp; done) | (simp; omega)))) | (refine Below.trans ?_ (Below.mono hb6 (by first | omega | (simp; done) | (simp; omega)))) | (refine Below.trans ?_ (Below.mono hb7 (by first | omega | (simp; done) | (simp; omega)))) | (refine Below.trans ?_ (Below.mono hb8 (by first | omega | (simp; done) | (simp; omega)))) | (refine Below.trans ?_ (Below.mono hb9 (by first | omega | (simp; done) | (simp; omega)))) | (refine Below.trans ?_ (Below.mono hb10 (by first | omega | (simp; done) | (simp; omega)))) | (refine Below.trans ?_ (Below.mono hb11 (by first | omega | (simp; done) | (simp; omega)))) | (refine Below.trans ?_ (Below.mono hb12 (by first | omega | (simp; done) | (simp; omega))))))))).mono ?_
  rintro e w3 ⟨ga, ca, ra, rfl, hla, hgea, hb3⟩
  have hB3 : Below w.heap.size w w3 := by with_reducible (repeat (first | exact Below.refl _ _ | assumption | (refine Below.setCell ?_ (by first | omega | (simp; done) | (simp; omega)) _) | (refine Below.alloc ?_ (by first | omega | (simp; done) | (simp; omega)) _) | (refine below_drewN ?_ _) | (refine Below.drew ?_) | (refine Below.trans ?_ (Below.mono hb (by first | omega | (simp; done) | (simp; omega)))) | (refine Below.trans ?_ (Below.mono hb1 (by first | omega | (simp; done) | (simp; omega)))) | (refine Below.trans ?_ (Below.mono hb2 (by first | omega | (simp; done) | (simp; omega)))) | (refine Below.trans ?_ (Below.mono hb3 (by first | omega | (simp; done) | (simp; omega)))) | (refine Below.trans ?_ (Below.mono hb4 (by first | omega | (simp; done) | (simp; omega)))) | (refine Below.trans ?_ (Below.mono hb5 (by first | omega | (simp; done) | (simp; omega)))) | (refine Below.trans ?_ (Below.mono hb6 (by first | omega | (simp; done) | (simp; omega)))) | (refine Below.trans ?_ (Below.mono hb7 (by first | omega | (simp; done) | (simp; omega)))) | (refine Below.trans ?_ (Below.mono hb8 (by first | omega | (simp; done) | (simp; omega)))) | (refine Below.trans ?_ (Below.mono hb9 (by first | omega | (simp; done) | (simp; omega)))) | (refine Below.trans ?_ (Below.mono hb10 (by first | omega | (simp; done) | (simp; omega)))) | (refine Below.trans ?_ (Below.mono hb11 (by first | omega | (simp; done) | (simp; omega)))) | (refine Below.trans ?_ (Below.mono hb12 (by first | omega | (simp; done) | (simp; omega))))))
  have hz3 := hb3.size
  obtain ⟨x0, x1, x2, x3⟩ := box4k hb3
  simp only [World.size_alloc] at hgea hz3
  clear hb3
  have hgal := lt_of_block hla
  go_wp2
  go_loopw [4] (fun i wr => ∃ k : Nat, k ≤ P.flds.length ∧ i = .int .i64 (k : Int) ∧ Below w3.heap.size w3 wr ∧ ∀ (j : Nat) (hj : j < P.flds.length), j < k → Pl.homeF P.flds[j] = false) (fun i _ => P.flds.length - (intOf i).toNat)
  case atStart => exact ⟨0, Nat.zero_le _, rfl, Below.refl _ _, fun j _ hj => absurd hj (Nat.not_lt_zero _)⟩
  case round =>
    obtain ⟨k, hk, rfl, hB, hf⟩ := hrel
    have HF := Lib.hid hf
    clear hf
    have hzB := hB.size
    have hBw : Below w.heap.size w wr := hB3.trans (hB.mono (by omega))
    by_cases hlt : k < P.flds.length
    · have hlt' : (k : Int) < (P.flds.length : Int) := by omega
      obtain ⟨s0, s1, l0, l1, a0, a1⟩ := fld_ok h.ok k hlt
      obtain ⟨f0, f1, f2⟩ := fcl_get ((hB.block ga hgal).trans hla) k hlt
      obtain ⟨f, hfe⟩ : ∃ f, P.flds[k] = f := ⟨_, rfl⟩
      rw [hfe] at s0 s1 l0 l1 a0 a1 f0 f1 f2
      have HFE := Lib.hid hfe
      clear hfe
      have EH := Lib.hid (show Pl.homeF f = (decide (0 < f.len) && !prot f.attr) from rfl)
      by_cases hl : 0 < f.len
      · cases hp : prot f.attr
        · have HH : Hid (P.home = (f.start + 1) % (P.cells.length : Int)) := Lib.hid (by rw [home_some hlt (by rw [HFE.out, EH.out, hp, decide_eq_true hl]; rfl) HF.out, HFE.out])
          go_wp2_with fail
          refine (rBit_in _ _ _ ⟨a0, a1⟩ (by omega)).mono ?_
          rintro e w5 ⟨rfl, hb5⟩
          have hz5 := hb5.size
          try simp only [World.size_alloc, World.size_drew, World.size_setCell] at hz5
          obtain ⟨hc5, hf5⟩ := bcell hb5
          rw [bit_prot, hp]
          have hx2 : w5.cell? ⟨w.heap.size, 2, none⟩ = some (.slice (some ⟨b, 0, none⟩) P.cells.length cap) := cell_keep x2 (hB.trans (hb5.mono (by omega)))
          replace f0 := cell_keep f0 hb5
          have hn' : (0 : Int) < (P.cells.length : Int) := by omega
          have e1 : IntKind.i64.wrap (f.start + 1) = f.start + 1 := IntWalk.i64_in _ (by omega)
          have hs1 : 0 ≤ f.start + 1 := by omega
          go_wp2
          go_quiet (fail)
          go_wp2
          go_ret
          exact ⟨by rw [HH.out]; rfl, by with_reducible (repeat (first | exact Below.refl _ _ | assumption | (refine Below.setCell ?_ (by first | omega | (simp; done) | (simp; omega)) _) | (refine Below.alloc ?_ (by first | omega | (simp; done) | (simp; omega)) _) | (refine below_drewN ?_ _) | (refine Below.drew ?_) | (refine Below.trans ?_ (Below.mono hb (by first | omega | (simp; done) | (simp; omega)))) | (refine Below.trans ?_ (Below.mono hb1 (by first | omega | (simp; done) | (simp; omega)))) | (refine Below.trans ?_ (Below.mono hb2 (by first | omega | (simp; done) | (simp; omega)))) | (refine Below.trans ?_ (Below.mono hb3 (by first | omega | (simp; done) | (simp; omega)))) | (refine Below.trans ?_ (Below.mono hb4 (by first | omega | (simp; done) | (simp; omega)))) | (refine Below.trans ?_ (Below.mono hb5 (by first | omega | (simp; done) | (simp; omega)))) | (refine Below.trans ?_ (Below.mono hb6 (by first | omega | (simp; done) | (simp; omega)))) | (refine Below.trans ?_ (Below.mono hb7 (by first | omega | (simp; done) | (simp; omega)))) | (refine Below.trans ?_ (Below.mono hb8 (by first | omega | (simp; done) | (simp; omega)))) | (refine Below.trans ?_ (Below.mono hb9 (by first | omega | (simp; done) | (simp; omega)))) | (refine Below.trans ?_ (Below.mono hb10 (by first | omega | (simp; done) | (simp; omega)))) | (refine Below.trans ?_ (Below.mono hb11 (by first | omega | (simp; done) | (simp; omega)))) | (refine Below.trans ?_ (Below.mono hb12 (by first | omega | (simp; done) | (simp; omega))))))⟩
        · go_wp2_with fail
          refine (rBit_in _ _ _ ⟨a0, a1⟩ (by omega)).mono ?_
          rintro e w5 ⟨rfl, hb5⟩
          have hz5 := hb5.size
          try simp only [World.size_alloc, World.size_drew, World.size_setCell] at hz5
          obtain ⟨hc5, hf5⟩ := bcell hb5
          rw [bit_prot, hp]
          go_wp2
          go_roundw
          case rel => exact ⟨k + 1, by omega, by go_num, by with_reducible (repeat (first | exact Below.refl _ _ | assumption | (refine Below.setCell ?_ (by first | omega | (simp; done) | (simp; omega)) _) | (refine Below.alloc ?_ (by first | omega | (simp; done) | (simp; omega)) _) | (refine below_drewN ?_ _) | (refine Below.drew ?_) | (refine Below.trans ?_ (Below.mono hb (by first | omega | (simp; done) | (simp; omega)))) | (refine Below.trans ?_ (Below.mono hb1 (by first | omega | (simp; done) | (simp; omega)))) | (refine Below.trans ?_ (Below.mono hb2 (by first | omega | (simp; done) | (simp; omega)))) | (refine Below.trans ?_ (Below.mono hb3 (by first | omega | (simp; done) | (simp; omega)))) | (refine Below.trans ?_ (Below.mono hb4 (by first | omega | (simp; done) | (simp; omega)))) | (refine Below.trans ?_ (Below.mono hb5 (by first | omega | (simp; done) | (simp; omega)))) | (refine Below.trans ?_ (Below.mono hb6 (by first | omega | (simp; done) | (simp; omega)))) | (refine Below.trans ?_ (Below.mono hb7 (by first | omega | (simp; done) | (simp; omega)))) | (refine Below.trans ?_ (Below.mono hb8 (by first | omega | (simp; done) | (simp; omega)))) | (refine Below.trans ?_ (Below.mono hb9 (by first | omega | (simp; done) | (simp; omega)))) | (refine Below.trans ?_ (Below.mono hb10 (by first | omega | (simp; done) | (simp; omega)))) | (refine Below.trans ?_ (Below.mono hb11 (by first | omega | (simp; done) | (simp; omega)))) | (refine Below.trans ?_ (Below.mono hb12 (by first | omega | (simp; done) | (simp; omega)))))), fun j hj hjk => by
            rcases Nat.lt_succ_iff_lt_or_eq.1 hjk with hjk | rfl
            · exact HF.out j hj hjk
            · rw [HFE.out, EH.out, hp]; simp⟩
          case measure => simp [intOf]; omega
      · go_wp2
        go_roundw
        case rel => exact ⟨k + 1, by omega, by go_num, by with_reducible (repeat (first | exact Below.refl _ _ | assumption | (refine Below.setCell ?_ (by first | omega | (simp; done) | (simp; omega)) _) | (refine Below.alloc ?_ (by first | omega | (simp; done) | (simp; omega)) _) | (refine below_drewN ?_ _) | (refine Below.drew ?_) | (refine Below.trans ?_ (Below.mono hb (by first | omega | (simp; done) | (simp; omega)))) | (refine Below.trans ?_ (Below.mono hb1 (by first | omega | (simp; done) | (simp; omega)))) | (refine Below.trans ?_ (Below.mono hb2 (by first | omega | (simp; done) | (simp; omega)))) | (refine Below.trans ?_ (Below.mono hb3 (by first | omega | (simp; done) | (simp; omega)))) | (refine Below.trans ?_ (Below.mono hb4 (by first | omega | (simp; done) | (simp; omega)))) | (refine Below.trans ?_ (Below.mono hb5 (by first | omega | (simp; done) | (simp; omega)))) | (refine Below.trans ?_ (Below.mono hb6 (by first | omega | (simp; done) | (simp; omega)))) | (refine Below.trans ?_ (Below.mono hb7 (by first | omega | (simp; done) | (simp; omega)))) | (refine Below.trans ?_ (Below.mono hb8 (by first | omega | (simp; done) | (simp; omega)))) | (refine Below.trans ?_ (Below.mono hb9 (by first | omega | (simp; done) | (simp; omega)))) | (refine Below.trans ?_ (Below.mono hb10 (by first | omega | (simp; done) | (simp; omega)))) | (refine Below.trans ?_ (Below.mono hb11 (by first | omega | (simp; done) | (simp; omega)))) | (refine Below.trans ?_ (Below.mono hb12 (by first | omega | (simp; done) | (simp; omega)))))), fun j hj hjk => by
          rcases Nat.lt_succ_iff_lt_or_eq.1 hjk with hjk | rfl
          · exact HF.out j hj hjk
          · rw [HFE.out, EH.out, decide_eq_false hl]; rfl⟩
        case measure => simp [intOf]; omega
    · have HH : Hid (P.home = 0) := Lib.hid (home_none (fun j hj => HF.out j hj (by omega)))
      go_wp2
      go_ret
      exact ⟨by rw [HH.out]; rfl, by with_reducible (repeat (first | exact Below.refl _ _ | assumption | (refine Below.setCell ?_ (by first | omega | (simp; done) | (simp; omega)) _) | (refine Below.alloc ?_ (by first | omega | (simp; done) | (simp; omega)) _) | (refine below_drewN ?_ _) | (refine Below.drew ?_) | (refine Below.trans ?_ (Below.mono hb (by first | omega | (simp; done) | (simp; omega)))) | (refine Below.trans ?_ (Below.mono hb1 (by first | omega | (simp; done) | (simp; omega)))) | (refine Below.trans ?_ (Below.mono hb2 (by first | omega | (simp; done) | (simp; omega)))) | (refine Below.trans ?_ (Below.mono hb3 (by first | omega | (simp; done) | (simp; omega)))) | (refine Below.trans ?_ (Below.mono hb4 (by first | omega | (simp; done) | (simp; omega)))) | (refine Below.trans ?_ (Below.mono hb5 (by first | omega | (simp; done) | (simp; omega)))) | (refine Below.trans ?_ (Below.mono hb6 (by first | omega | (simp; done) | (simp; omega)))) | (refine Below.trans ?_ (Below.mono hb7 (by first | omega | (simp; done) | (simp; omega)))) | (refine Below.trans ?_ (Below.mono hb8 (by first | omega | (simp; done) | (simp; omega)))) | (refine Below.trans ?_ (Below.mono hb9 (by first | omega | (simp; done) | (simp; omega)))) | (refine Below.trans ?_ (Below.mono hb10 (by first | omega | (simp; done) | (simp; omega)))) | (refine Below.trans ?_ (Below.mono hb11 (by first | omega | (simp; done) | (simp; omega)))) | (refine Below.trans ?_ (Below.mono hb12 (by first | omega | (simp; done) | (simp; omega))))))⟩

/-- The open fields' attributes' places, of the first fields. -/
def Pl.opl (P : Pl) (k : Nat) : List Int := ((P.flds.take k).filter Pl.homeF).map Fld.start
theorem Pl.opl_len (P : Pl) (k : Nat) : (P.opl k).length ≤ k := by
  unfold Pl.opl
  rw [List.length_map]
  exact Nat.le_trans (List.length_filter_le _ _) (by rw [List.length_take]; omega)
theorem Pl.opl_step (P : Pl) (k : Nat) (hk : k < P.flds.length) : P.opl (k + 1) = P.opl k ++ if Pl.homeF P.flds[k] then [P.flds[k].start] else [] := by
  unfold Pl.opl
  rw [List.take_add_one, List.getElem?_eq_getElem hk, List.filter_append, List.map_append]
  congr 1
  cases h : Pl.homeF P.flds[k] <;> simp [h]

set_option maxRecDepth 100000 in
theorem rOpens_any {w : World} {b cap : Nat} {P : Pl} (h : RC w b P) :
    Calls Try.prog 95 #[.agg #[.int .i64 P.rows, .int .i64 P.cols, .slice (some ⟨b, 0, none⟩) P.cells.length cap, .int .i64 P.cursor]] w (IntsPost (P.opl P.flds.length) w) := by
  have hn := Pl.N_pos h.ok
  have hm := Pl.N_le h.ok
  have hbl := h.bl
  have hfl := flds_len P
  have hsn := starts_le_n P
  have HI := Lib.hid info_int
  rw [← hfl] at hsn
  go_enter Try.func95, Try.ntmps95
  go_wp2_with fail
  refine (rAll_any (h.below (by with_reducible (repeat (first | exact Below.refl _ _ | assumption | (refine Below.setCell ?_ (by first | omega | (simp; done) | (simp; omega)) _) | (refine Below.alloc ?_ (by first | omega | (simp; done) | (simp; omega)) _) | (refine below_drewN ?_ _) | (refine Below.drew ?_) | (refine Below.trans ?_ (Below.mono hb (by first | omega | (simp; done) | (simp; omega)))) | (refine Below.trans ?_ (Below.mono hb1 (by first | omega | (simp; done) | (simp; omega)))) | (refine Below.trans ?_ (Below.mono hb2 (by first | omega | (simp; done) | (simp; omega)))) | (refine Below.trans ?_ (Below.mono hb3 (by first | omega | (simp; done) | (simp; omega)))) | (refine Below.trans ?_ (Below.mono hb4 (by first | omega | (simp; done) | (simp; omega)))) | (refine Below.trans ?_ (Below.mono hb5 (by first | omega | (simp; done) | (simp; omega)))) | (refine Below.trans ?_ (Below.mono hb6 (by first | omega | (simp; done) | (simp; omega)))) | (refine Below.trans ?_ (Below.mono hb7 (by first | omega | (simp; done) | (simp; omega)))) | (refine Below.trans ?_ (Below.mono hb8 (by first | omega | (simp; done) | (simp; omega)))) | (refine Below.trans ?_ (Below.mono hb9 (by first | omega | (simp; done) | (simp; omega)))) | (refine Below.trans ?_ (Below.mono hb10 (by first | omega | (simp; done) | (simp; omega)))) | (refine Below.trans ?_ (Below.mono hb11 (by first | omega | (simp; done) | (simp; omega)))) | (refine Below.trans ?_ (Below.mono hb12 (by first | omega | (simp; done) | (simp; omega))))))))).mono ?_
  rintro e w3 ⟨ga, ca, ra, rfl, hla, hgea, hb3⟩
  have hB3 : Below (w.heap.size + 1) (w.alloc (.cells #[.int .i64 P.rows, .int .i64 P.cols, .slice (some ⟨b, 0, none⟩) P.cells.length cap, .int .i64 P.cursor] 77)) w3 := (Below.alloc (Below.refl _ _) (by simp) _).trans (hb3.mono (by simp))
  have ho3 := owns_below (owns_empty (w.alloc (.cells #[.int .i64 P.rows, .int .i64 P.cols, .slice (some ⟨b, 0, none⟩) P.cells.length cap, .int .i64 P.cursor] 77)) 3 1) hb3
  have hz3 := hb3.size
  simp only [World.size_alloc] at hgea hz3 ho3
  clear hb3
  go_wp2
  go_loopw [3, 5] (fun v i wr => ∃ k g c : Nat, k ≤ P.flds.length ∧ i = .int .i64 (k : Int) ∧ v = .slice (some ⟨g, 0, none⟩) (P.opl k).length c ∧ wr.ownsRow (w.heap.size + 1) 3 1 v (P.opl k).length (ints (P.opl k)) ∧ Below (w.heap.size + 1) (w.alloc (.cells #[.int .i64 P.rows, .int .i64 P.cols, .slice (some ⟨b, 0, none⟩) P.cells.length cap, .int .i64 P.cursor] 77)) wr ∧ wr.heap[ga]? = some (.cells (fcl P.flds ++ ra).toArray 153 (0, 0))) (fun _ i _ => P.flds.length - (intOf i).toNat)
  case atStart => exact ⟨0, _, _, Nat.zero_le _, rfl, rfl, ho3, hB3, hla⟩
  case round =>
    obtain ⟨k, g, c, hk, rfl, rfl, hown, hB, hl⟩ := hrel
    clear hla ho3 hB3
    have hgal := lt_of_block hl
    have hzB := hB.size
    simp only [World.size_alloc] at hzB
    have hol := P.opl_len k
    by_cases hlt : k < P.flds.length
    · have hlt' : (k : Int) < (P.flds.length : Int) := by omega
      have hge := (hown.lt g rfl).1
      have hne : g ≠ ga := by
        rintro rfl
        obtain ⟨_, r, hh⟩ := owns_row hown
        rw [hh] at hl
        simp at hl
      obtain ⟨s0, s1, l0, l1, a0, a1⟩ := fld_ok h.ok k hlt
      obtain ⟨f0, f1, f2⟩ := fcl_get hl k hlt
      have hstep := P.opl_step k hlt
      obtain ⟨f, hfe⟩ : ∃ f, P.flds[k] = f := ⟨_, rfl⟩
      rw [hfe] at s0 s1 l0 l1 a0 a1 f0 f1 f2 hstep
      obtain ⟨nn, hnn⟩ : ∃ nn, (P.opl k).length = nn := ⟨_, rfl⟩
      rw [hnn] at hown hol ⊢
      have HST := Lib.hid hstep
      have HFE := Lib.hid hfe
      have HN := Lib.hid hnn
      clear hfe hstep hnn
      have EH := Lib.hid (show Pl.homeF f = (decide (0 < f.len) && !prot f.attr) from rfl)
      by_cases hll : 0 < f.len
      · go_wp2_with fail
        refine (rBit_in _ _ _ ⟨a0, a1⟩ (by omega)).mono ?_
        rintro e w5 ⟨rfl, hb5⟩
        have hz5 := hb5.size
        try simp only [World.size_alloc, World.size_drew, World.size_setCell] at hz5
        obtain ⟨hc5, hf5⟩ := bcell hb5
        rw [bit_prot]
        have hl5 := (hb5.block ga (by simpa using hgal)).trans hl
        have hB5 := hB.trans (hb5.mono (by omega))
        have hown5 := owns_below hown hb5
        have hz5 := hb5.size
        clear hc5 hf5 hl hB hown hb5
        cases hp : prot f.attr
        · have EE : Hid (P.opl (k + 1) = P.opl k ++ [f.start]) := Lib.hid (by rw [HST.out, EH.out, hp, decide_eq_true hll]; rfl)
          have hff := fcl_get hl5 k hlt
          rw [HFE.out] at hff
          obtain ⟨f0, f1, f2⟩ := hff
          go_wp2_with (at_builtin; obtain ⟨i0, hi, hz0, hz1, hz2⟩ := info_parts HI.out; refine wpList_append_lies _ rfl _ _ 68 rfl (w.heap.size + 1) 3 i0 _ 1 8 Try.underlying68 hi hz0 hz1 hz2 rfl (by decide) _ _ _ rfl (hown5.alloc _) ⟨w5.heap.size, 0, none⟩ 1 1 [.int .i64 f.start] rfl rfl (news_new _ _ _ _ rfl) (by intro u hu; simp at hu; subst hu; rfl) (by decide) (by unfold maxLen; omega) (by omega) (by simp; omega) (w5.heap.size + 1) (by simp) ?_; clear hi hz0 hz1 hz2; intro g2 c2 w4 hown2 hgr hat hlt4)
          go_wp2
          go_roundw
          case rel =>
            refine ⟨k + 1, g2, c2, by omega, by go_num, by rw [EE.out, List.length_append, HN.out]; rfl, ?_, (hB5.alloc (by omega) _).grown hgr (by simp; omega) (fun j e => by cases e; exact hge), ?_⟩
            · rw [EE.out, List.length_append, HN.out]
              simpa [ints] using hown2
            · rw [hgr.block ga (by rw [World.size_alloc]; exact Nat.lt_succ_of_lt (lt_of_block hl5)) (by intro e; cases e; exact hne rfl), Below.heap_alloc _ _ _ (lt_of_block hl5)]
              exact hl5
          case measure => simp [intOf]; omega
        · have EE : Hid (P.opl (k + 1) = P.opl k) := Lib.hid (by rw [HST.out, EH.out, hp]; simp)
          go_wp2
          go_roundw
          case rel => exact ⟨k + 1, g, c, by omega, by go_num, by rw [EE.out, HN.out], by rw [EE.out, HN.out]; exact hown5, hB5, hl5⟩
          case measure => simp [intOf]; omega
      · have EE : Hid (P.opl (k + 1) = P.opl k) := Lib.hid (by rw [HST.out, EH.out, decide_eq_false hll]; simp)
        go_wp2
        go_roundw
        case rel => exact ⟨k + 1, g, c, by omega, by go_num, by rw [EE.out, HN.out], by rw [EE.out, HN.out]; exact hown, hB, hl⟩
        case measure => simp [intOf]; omega
    · have e : k = P.flds.length := by omega
      subst e
      go_wp2
      go_ret
      obtain ⟨h1, r, h2⟩ := owns_row hown
      exact ⟨g, c, r, rfl, h2, by omega, below_of_box hB⟩
end Go.Proofs.Ytbkddgeocmkegaa

/-! The next open field, and the one ahead: plain laws. -/
namespace Go.Proofs.Ytbkddgeocmkegaa

def bestUp (L : List Int) (a d : Int) (i : Nat) : Int := ((L.drop i).find? (fun x => decide (a ≤ x))).getD d
theorem bestUp_end (L : List Int) (a d : Int) : bestUp L a d L.length = d := by simp [bestUp]
theorem bestUp_step (L : List Int) (a d : Int) (i : Nat) (h : i < L.length) : bestUp L a d i = if a ≤ L[i] then L[i] else bestUp L a d (i + 1) := by
  unfold bestUp
  rw [List.drop_eq_getElem_cons h, List.find?_cons]
  by_cases e : a ≤ L[i]
  · rw [if_pos e]; simp [e]
  · rw [if_neg e]; simp [e]
def bestDn (L : List Int) (a d : Int) (i : Nat) : Int := ((L.take i).reverse.find? (fun x => decide (x ≤ a))).getD d
theorem bestDn_zero (L : List Int) (a d : Int) : bestDn L a d 0 = d := by simp [bestDn]
theorem bestDn_step (L : List Int) (a d : Int) (i : Nat) (h : i < L.length) : bestDn L a d (i + 1) = if L[i] ≤ a then L[i] else bestDn L a d i := by
  unfold bestDn
  rw [List.take_add_one, List.getElem?_eq_getElem h, List.reverse_append]
  show (List.find? _ (L[i] :: _)).getD d = _
  rw [List.find?_cons]
  by_cases e : L[i] ≤ a
  · rw [if_pos e]; simp [e]
  · rw [if_neg e]; simp [e]

theorem seek_up {n : Nat} {p : Int → Bool} {L : List Int} (hL : L.Pairwise (· < ·)) (hr : ∀ x ∈ L, 0 ≤ x ∧ x < (n : Int)) (hp : ∀ x, 0 ≤ x → x < (n : Int) → (p x = true ↔ x ∈ L)) {a : Int} (a0 : 0 ≤ a) (a1 : a < (n : Int)) (hne : 0 < L.length) :
    ∃ k, srch n (fun i => p ((a + (i : Int) * 1) % (n : Int))) = some k ∧ (a + (k : Int) * (1 : Int)) % (n : Int) = bestUp L a L[0] 0 := by
  have hlt : ∀ (i j : Nat) (hi : i < L.length) (hj : j < L.length), i < j → L[i] < L[j] := fun i j hi hj h => List.pairwise_iff_getElem.1 hL i j hi hj h
  have pf : ∀ x, 0 ≤ x → x < (n : Int) → x ∉ L → p x = false := fun x h0 h1 h => by
    cases hx : p x
    · rfl
    · exact absurd ((hp x h0 h1).1 hx) h
  unfold bestUp
  rw [List.drop_zero]
  cases hf : L.find? (fun x => decide (a ≤ x)) with
  | some b =>
    rw [List.find?_eq_some_iff_getElem] at hf
    obtain ⟨hb, i, hi, e, hj⟩ := hf
    have hab : a ≤ b := of_decide_eq_true hb
    have hbm : b ∈ L := e ▸ List.getElem_mem hi
    have hbr := hr b hbm
    have ek : (a + (((b - a).toNat : Nat) : Int) * 1) % (n : Int) = b := by rw [show a + (((b - a).toNat : Nat) : Int) * 1 = b by omega, Int.emod_eq_of_lt hbr.1 hbr.2]
    refine ⟨(b - a).toNat, srch_some (by omega) ?_ ?_, by rw [ek]; rfl⟩
    · show p _ = true
      rw [ek]
      exact (hp b hbr.1 hbr.2).2 hbm
    · intro j hjk
      show p _ = false
      rw [Int.emod_eq_of_lt (by omega) (by omega)]
      refine pf _ (by omega) (by omega) (fun hm => ?_)
      obtain ⟨m, hm', em⟩ := List.getElem_of_mem hm
      rcases Nat.lt_or_ge m i with g | g
      · have := hj m g
        simp at this
        omega
      · rcases Nat.lt_or_ge i m with g2 | g2
        · have := hlt i m hi hm' g2; omega
        · have : m = i := by omega
          subst this; omega
  | none =>
    rw [List.find?_eq_none] at hf
    have hall : ∀ x ∈ L, x < a := fun x hx => by have := hf x hx; simp at this; omega
    have hbm : L[0] ∈ L := List.getElem_mem hne
    have hbr := hr _ hbm
    have hba := hall _ hbm
    show ∃ k, _ ∧ _ = L[0]
    obtain ⟨b, hb⟩ : ∃ b, L[0] = b := ⟨_, rfl⟩
    rw [hb] at hbm hbr hba ⊢
    have ek : (a + (((b + n - a).toNat : Nat) : Int) * 1) % (n : Int) = b := by rw [show a + (((b + n - a).toNat : Nat) : Int) * 1 = b + n by omega, Int.add_emod_right, Int.emod_eq_of_lt hbr.1 hbr.2]
    refine ⟨(b + n - a).toNat, srch_some (by omega) ?_ ?_, ek⟩
    · show p _ = true
      rw [ek]
      exact (hp b hbr.1 hbr.2).2 hbm
    · intro j hjk
      show p _ = false
      by_cases g : a + (j : Int) < (n : Int)
      · rw [Int.emod_eq_of_lt (by omega) (by omega)]
        exact pf _ (by omega) (by omega) (fun hm => by have := hall _ hm; omega)
      · rw [show a + (j : Int) * 1 = a + j - n + n by omega, Int.add_emod_right, Int.emod_eq_of_lt (by omega) (by omega)]
        refine pf _ (by omega) (by omega) (fun hm => ?_)
        obtain ⟨m, hm', em⟩ := List.getElem_of_mem hm
        rcases Nat.eq_zero_or_pos m with g2 | g2
        · subst g2; omega
        · have := hlt 0 m hne hm' g2; omega

theorem seek_dn {n : Nat} {p : Int → Bool} {L : List Int} (hL : L.Pairwise (· < ·)) (hr : ∀ x ∈ L, 0 ≤ x ∧ x < (n : Int)) (hp : ∀ x, 0 ≤ x → x < (n : Int) → (p x = true ↔ x ∈ L)) {a : Int} (a0 : 0 ≤ a) (a1 : a < (n : Int)) (hne : L.length - 1 < L.length) :
    ∃ k, srch n (fun i => p ((a + (i : Int) * -1) % (n : Int))) = some k ∧ (a + (k : Int) * (-1 : Int)) % (n : Int) = bestDn L a L[L.length - 1] L.length := by
  have hlt : ∀ (i j : Nat) (hi : i < L.length) (hj : j < L.length), i < j → L[i] < L[j] := fun i j hi hj h => List.pairwise_iff_getElem.1 hL i j hi hj h
  have hLr : L.reverse.Pairwise (fun x y => y < x) := List.pairwise_reverse.2 hL
  have hltr : ∀ (i j : Nat) (hi : i < L.reverse.length) (hj : j < L.reverse.length), i < j → L.reverse[j] < L.reverse[i] := fun i j hi hj h => List.pairwise_iff_getElem.1 hLr i j hi hj h
  have pf : ∀ x, 0 ≤ x → x < (n : Int) → x ∉ L → p x = false := fun x h0 h1 h => by
    cases hx : p x
    · rfl
    · exact absurd ((hp x h0 h1).1 hx) h
  unfold bestDn
  rw [List.take_length]
  cases hf : L.reverse.find? (fun x => decide (x ≤ a)) with
  | some b =>
    rw [List.find?_eq_some_iff_getElem] at hf
    obtain ⟨hb, i, hi, e, hj⟩ := hf
    have hab : b ≤ a := of_decide_eq_true hb
    have hbm : b ∈ L := List.mem_reverse.1 (e ▸ List.getElem_mem hi)
    have hbr := hr b hbm
    have ek : (a + (((a - b).toNat : Nat) : Int) * -1) % (n : Int) = b := by rw [show a + (((a - b).toNat : Nat) : Int) * -1 = b by omega, Int.emod_eq_of_lt hbr.1 hbr.2]
    refine ⟨(a - b).toNat, srch_some (by omega) ?_ ?_, by rw [ek]; rfl⟩
    · show p _ = true
      rw [ek]
      exact (hp b hbr.1 hbr.2).2 hbm
    · intro j hjk
      show p _ = false
      rw [Int.emod_eq_of_lt (by omega) (by omega)]
      refine pf _ (by omega) (by omega) (fun hm => ?_)
      obtain ⟨m, hm', em⟩ := List.getElem_of_mem (List.mem_reverse.2 hm)
      rcases Nat.lt_or_ge m i with g | g
      · have := hj m g
        simp only [Bool.not_eq_eq_eq_not, Bool.not_true, decide_eq_false_iff_not] at this
        omega
      · rcases Nat.lt_or_ge i m with g2 | g2
        · have := hltr i m hi hm' g2; omega
        · have : m = i := by omega
          subst this; omega
  | none =>
    rw [List.find?_eq_none] at hf
    have hall : ∀ x ∈ L, a < x := fun x hx => by have := hf x (List.mem_reverse.2 hx); simp at this; omega
    have hbm : L[L.length - 1] ∈ L := List.getElem_mem hne
    have hbr := hr _ hbm
    have hba := hall _ hbm
    show ∃ k, _ ∧ _ = L[L.length - 1]
    obtain ⟨b, hb⟩ : ∃ b, L[L.length - 1] = b := ⟨_, rfl⟩
    rw [hb] at hbm hbr hba ⊢
    have ek : (a + (((a + n - b).toNat : Nat) : Int) * -1) % (n : Int) = b := by
      rw [show a + (((a + n - b).toNat : Nat) : Int) * -1 = b - n by omega, Int.sub_emod_right, Int.emod_eq_of_lt hbr.1 hbr.2]
    refine ⟨(a + n - b).toNat, srch_some (by omega) ?_ ?_, ek⟩
    · show p _ = true
      rw [ek]
      exact (hp b hbr.1 hbr.2).2 hbm
    · intro j hjk
      show p _ = false
      by_cases g : (j : Int) ≤ a
      · rw [Int.emod_eq_of_lt (by omega) (by omega)]
        exact pf _ (by omega) (by omega) (fun hm => by have := hall _ hm; omega)
      · rw [show a + (j : Int) * -1 = a - j + n - n by omega, Int.sub_emod_right, Int.emod_eq_of_lt (by omega) (by omega)]
        refine pf _ (by omega) (by omega) (fun hm => ?_)
        obtain ⟨m, hm', em⟩ := List.getElem_of_mem hm
        rcases Nat.lt_or_ge m (L.length - 1) with g2 | g2
        · have := hlt m (L.length - 1) hm' hne g2; omega
        · have : m = L.length - 1 := by omega
          subst this; omega

theorem flds_start_lt (P : Pl) {a b : Nat} (h : a < b) (hb : b < P.flds.length) : P.flds[a].start < P.flds[b].start := by
  have hb' : b < P.starts.length := by rwa [flds_len] at hb
  have ha' : a < P.starts.length := by omega
  rw [flds_at, flds_at]
  have := P.starts_lt h hb'
  show ((P.starts[a] : Nat) : Int) < ((P.starts[b] : Nat) : Int)
  omega
theorem opl_pair (P : Pl) (k : Nat) : (P.opl k).Pairwise (· < ·) := by
  unfold Pl.opl
  refine List.Pairwise.map (S := fun a b => a < b) (R := fun a b => a.start < b.start) Fld.start (fun _ _ h => h) ?_
  refine List.Pairwise.filter _ ?_
  refine List.Pairwise.sublist (List.take_sublist _ _) ?_
  rw [List.pairwise_iff_getElem]
  intro i j hi hj h
  exact flds_start_lt P h hj
theorem opl_mem {P : Pl} {x : Int} : x ∈ P.opl P.flds.length ↔ ∃ (c : Nat) (hc : c < P.flds.length), P.flds[c].start = x ∧ Pl.homeF P.flds[c] = true := by
  unfold Pl.opl
  rw [List.take_length, List.mem_map]
  constructor
  · rintro ⟨f, hf, e⟩
    rw [List.mem_filter] at hf
    obtain ⟨c, hc, e2⟩ := List.getElem_of_mem hf.1
    exact ⟨c, hc, by rw [e2]; exact e, by rw [e2]; exact hf.2⟩
  · rintro ⟨c, hc, e, h⟩
    exact ⟨P.flds[c], List.mem_filter.2 ⟨List.getElem_mem hc, h⟩, e⟩
theorem opl_range {P : Pl} (hok : P.ok) : ∀ x ∈ P.opl P.flds.length, 0 ≤ x ∧ x < (P.cells.length : Int) := by
  intro x hx
  obtain ⟨c, hc, e, -⟩ := opl_mem.1 hx
  have := fld_ok hok c hc
  rw [← e]
  exact ⟨this.1, this.2.1⟩
theorem opens_iff {P : Pl} (hok : P.ok) (x : Int) : P.opens x = true ↔ x ∈ P.opl P.flds.length := by
  rw [opl_mem]
  unfold Pl.opens
  constructor
  · intro h
    simp only [Bool.and_eq_true, beq_iff_eq] at h
    obtain ⟨hB, hs, hl⟩ := h
    have hb0 : 0 ≤ P.before x := of_decide_eq_true hB
    have hF : P.ofF x = P.fld (P.before x) := by unfold Pl.ofF; rw [if_pos hb0]
    have hbx : P.before x = x := by rw [hF] at hs; exact hs
    obtain ⟨s, hs'⟩ : ∃ s : Nat, x = (s : Int) := ⟨x.toNat, by omega⟩
    obtain ⟨h1, h2, h3⟩ := Pl.ofs_of hok (s := s) (by rw [hbx, hs'])
    obtain ⟨c, hc, e⟩ := P.starts_ix h1 h2
    refine ⟨c, by rw [flds_len]; exact hc, ?_, ?_⟩
    · rw [flds_at]; show ((P.starts[c] : Nat) : Int) = x; omega
    · have : P.flds[c]'(by rw [flds_len]; exact hc) = P.ofF x := by rw [flds_at, hF, hbx, hs', e]
      rw [this]
      unfold Pl.homeF
      simpa using hl
  · rintro ⟨c, hc, e, h⟩
    have hc' : c < P.starts.length := by rwa [flds_len] at hc
    have hm := P.starts_mem (List.getElem_mem hc')
    have hst : (P.starts[c] : Int) = x := by rw [← e, flds_at]; rfl
    obtain ⟨l, hl, el, -, -⟩ := Pl.len_spec hok hm.1 hm.2
    have hof := of_found hok hc (ofs_start P _ hm.1 x (by rw [el]; omega) hst)
    rw [hof.1, hof.2, e]
    unfold Pl.homeF at h
    simpa using h
theorem opl_seek_up {P : Pl} (hok : P.ok) {a : Int} (a0 : 0 ≤ a) (a1 : a < (P.cells.length : Int)) (hne : 0 < (P.opl P.flds.length).length) : P.seek a 1 = (bestUp (P.opl P.flds.length) a (P.opl P.flds.length)[0] 0 + 1) % (P.cells.length : Int) := by
  obtain ⟨k, h1, h2⟩ := seek_up (p := P.opens) (opl_pair P _) (opl_range hok) (fun x _ _ => opens_iff hok x) a0 a1 hne
  unfold Pl.seek
  rw [h1, ← h2, Int.emod_add_emod]
theorem opl_seek_dn {P : Pl} (hok : P.ok) {a : Int} (a0 : 0 ≤ a) (a1 : a < (P.cells.length : Int)) (hne : (P.opl P.flds.length).length - 1 < (P.opl P.flds.length).length) : P.seek a (-1) = (bestDn (P.opl P.flds.length) a (P.opl P.flds.length)[(P.opl P.flds.length).length - 1] (P.opl P.flds.length).length + 1) % (P.cells.length : Int) := by
  obtain ⟨k, h1, h2⟩ := seek_dn (p := P.opens) (opl_pair P _) (opl_range hok) (fun x _ _ => opens_iff hok x) a0 a1 hne
  unfold Pl.seek
  rw [h1, ← h2, Int.emod_add_emod]
theorem opl_seek_none {P : Pl} (hok : P.ok) (a s : Int) (h : (P.opl P.flds.length).length = 0) : P.seek a s = 0 := by
  have : srch P.cells.length (fun i => P.opens ((a + (i : Int) * s) % (P.cells.length : Int))) = none := by
    refine srch_none (fun j _ => ?_)
    show P.opens _ = false
    cases hx : P.opens ((a + (j : Int) * s) % (P.cells.length : Int))
    · rfl
    · have := (opens_iff hok _).1 hx
      rw [List.eq_nil_of_length_eq_zero h] at this
      cases this
  unfold Pl.seek
  rw [this]
end Go.Proofs.Ytbkddgeocmkegaa

namespace Go.Proofs.Ytbkddgeocmkegaa
open Go.RowKit Go.Shelf
set_option linter.unusedSimpArgs false
set_option linter.unusedVariables false
set_option maxHeartbeats 2000000
attribute [local go_sem ↓] run_start run_byte run_cols

theorem rMove19_any {w : World} {b cap : Nat} {P : Pl} (h : RC w b P) (rows cols : Int) :
    Calls Try.prog 35 #[.agg #[.int .i64 P.rows, .int .i64 P.cols, .slice (some ⟨b, 0, none⟩) P.cells.length cap, .int .i64 P.cursor], .int .i64 rows, .int .i64 cols] w fun e w' => e = .returned (.int .i64 (P.move rows cols)) ∧ Below w.heap.size w w' := by
  have hok := h.ok
  have hr0 : P.rows ≠ 0 := by have := hok.r1; omega
  have hmul := mul_small hok rows
  go_enter Try.func35, Try.ntmps35
  go_wp2
  go_region_held3 (fun W => W.cell? ⟨w.heap.size, 0, none⟩ = some (.int .i64 P.rows) ∧ W.cell? ⟨w.heap.size, 1, none⟩ = some (.int .i64 P.cols) ∧ W.cell? ⟨w.heap.size, 2, none⟩ = some (.slice (some ⟨b, 0, none⟩) P.cells.length cap) ∧ W.cell? ⟨w.heap.size, 3, none⟩ = some (.int .i64 P.cursor))
    (first | exact keep4 (by assumption) hb1 | go_keep) (first | (go_at_call 94; refine (rMove_P hok _ _ _).mono ?_; rintro e w1 ⟨rfl, hb1⟩))
  have x0 : w1.cell? ⟨w.heap.size, 0, none⟩ = some (.int .i64 P.rows) := by rw [hb1.cell (by simp)]; simp [go_sem]
  have x1 : w1.cell? ⟨w.heap.size, 1, none⟩ = some (.int .i64 P.cols) := by rw [hb1.cell (by simp)]; simp [go_sem]
  clear hmul
  have hz1 := hb1.size
  simp only [World.size_alloc, World.size_drew] at hz1
  go_wp2_with fail
  refine (rMove_P hok _ _ _).mono ?_
  rintro e w2 ⟨rfl, hb2⟩
  go_wp2
  go_ret
  exact ⟨rfl, by with_reducible (repeat (first | exact Below.refl _ _ | assumption | (refine Below.setCell ?_ (by first | omega | (simp; done) | (simp; omega)) _) | (refine Below.alloc ?_ (by first | omega | (simp; done) | (simp; omega)) _) | (refine below_drewN ?_ _) | (refine Below.drew ?_) | (refine Below.trans ?_ (Below.mono hb (by first | omega | (simp; done) | (simp; omega)))) | (refine Below.trans ?_ (Below.mono hb1 (by first | omega | (simp; done) | (simp; omega)))) | (refine Below.trans ?_ (Below.mono hb2 (by first | omega | (simp; done) | (simp; omega)))) | (refine Below.trans ?_ (Below.mono hb3 (by first | omega | (simp; done) | (simp; omega)))) | (refine Below.trans ?_ (Below.mono hb4 (by first | omega | (simp; done) | (simp; omega)))) | (refine Below.trans ?_ (Below.mono hb5 (by first | omega | (simp; done) | (simp; omega)))) | (refine Below.trans ?_ (Below.mono hb6 (by first | omega | (simp; done) | (simp; omega)))) | (refine Below.trans ?_ (Below.mono hb7 (by first | omega | (simp; done) | (simp; omega)))) | (refine Below.trans ?_ (Below.mono hb8 (by first | omega | (simp; done) | (simp; omega)))) | (refine Below.trans ?_ (Below.mono hb9 (by first | omega | (simp; done) | (simp; omega)))) | (refine Below.trans ?_ (Below.mono hb10 (by first | omega | (simp; done) | (simp; omega)))) | (refine Below.trans ?_ (Below.mono hb11 (by first | omega | (simp; done) | (simp; omega)))) | (refine Below.trans ?_ (Below.mono hb12 (by first | omega | (simp; done) | (simp; omega))))))⟩

theorem bestUp_range {P : Pl} (hok : P.ok) {a : Int} (hne : 0 < (P.opl P.flds.length).length) (i : Nat) : 0 ≤ bestUp (P.opl P.flds.length) a (P.opl P.flds.length)[0] i ∧ bestUp (P.opl P.flds.length) a (P.opl P.flds.length)[0] i < (P.cells.length : Int) := by
  unfold bestUp
  cases hf : ((P.opl P.flds.length).drop i).find? (fun x => decide (a ≤ x)) with
  | none => exact opl_range hok _ (List.getElem_mem hne)
  | some x => exact opl_range hok x (List.mem_of_mem_drop (List.mem_of_find?_eq_some hf))

set_option maxRecDepth 100000 in
theorem rTab_list {w : World} {b cap : Nat} {P : Pl} (h : RC w b P) (a : Int) (a0 : 0 ≤ a) (a1 : a < (P.cells.length : Int)) (L : List Int) (HL : Hid (P.opl P.flds.length = L)) (hne : 0 < L.length) (hol : L.length ≤ P.flds.length)
    (E : Hid (P.seek a 1 = (bestUp L a L[0] 0 + 1) % (P.cells.length : Int))) (HR : Hid (∀ i, 0 ≤ bestUp L a L[0] i ∧ bestUp L a L[0] i < (P.cells.length : Int))) :
    Calls Try.prog 36 #[.agg #[.int .i64 P.rows, .int .i64 P.cols, .slice (some ⟨b, 0, none⟩) P.cells.length cap, .int .i64 P.cursor], .int .i64 a] w fun e w' => e = .returned (.int .i64 (P.seek a 1)) ∧ Below w.heap.size w w' := by
  have hn := Pl.N_pos h.ok
  have hm := Pl.N_le h.ok
  have hsn := starts_le_n P
  rw [← flds_len] at hsn
  have HST := Lib.hid (fun i hi => bestUp_step L a L[0] i hi)
  have HEN := Lib.hid (bestUp_end L a L[0])
  go_enter Try.func36, Try.ntmps36
  go_wp2_with fail
  refine (rOpens_any (h.below (by with_reducible (repeat (first | exact Below.refl _ _ | assumption | (refine Below.setCell ?_ (by first | omega | (simp; done) | (simp; omega)) _) | (refine Below.alloc ?_ (by first | omega | (simp; done) | (simp; omega)) _) | (refine below_drewN ?_ _) | (refine Below.drew ?_) | (refine Below.trans ?_ (Below.mono hb (by first | omega | (simp; done) | (simp; omega)))) | (refine Below.trans ?_ (Below.mono hb1 (by first | omega | (simp; done) | (simp; omega)))) | (refine Below.trans ?_ (Below.mono hb2 (by first | omega | (simp; done) | (simp; omega)))) | (refine Below.trans ?_ (Below.mono hb3 (by first | omega | (simp; done) | (simp; omega)))) | (refine Below.trans ?_ (Below.mono hb4 (by first | omega | (simp; done) | (simp; omega)))) | (refine Below.trans ?_ (Below.mono hb5 (by first | omega | (simp; done) | (simp; omega)))) | (refine Below.trans ?_ (Below.mono hb6 (by first | omega | (simp; done) | (simp; omega)))) | (refine Below.trans ?_ (Below.mono hb7 (by first | omega | (simp; done) | (simp; omega)))) | (refine Below.trans ?_ (Below.mono hb8 (by first | omega | (simp; done) | (simp; omega)))) | (refine Below.trans ?_ (Below.mono hb9 (by first | omega | (simp; done) | (simp; omega)))) | (refine Below.trans ?_ (Below.mono hb10 (by first | omega | (simp; done) | (simp; omega)))) | (refine Below.trans ?_ (Below.mono hb11 (by first | omega | (simp; done) | (simp; omega)))) | (refine Below.trans ?_ (Below.mono hb12 (by first | omega | (simp; done) | (simp; omega))))))))).mono ?_
  rintro e w3 ⟨gl, cl, rl, rfl, hl, hge, hb3⟩
  rw [HL.out] at hl ⊢
  have hB3 : Below w.heap.size w w3 := by with_reducible (repeat (first | exact Below.refl _ _ | assumption | (refine Below.setCell ?_ (by first | omega | (simp; done) | (simp; omega)) _) | (refine Below.alloc ?_ (by first | omega | (simp; done) | (simp; omega)) _) | (refine below_drewN ?_ _) | (refine Below.drew ?_) | (refine Below.trans ?_ (Below.mono hb (by first | omega | (simp; done) | (simp; omega)))) | (refine Below.trans ?_ (Below.mono hb1 (by first | omega | (simp; done) | (simp; omega)))) | (refine Below.trans ?_ (Below.mono hb2 (by first | omega | (simp; done) | (simp; omega)))) | (refine Below.trans ?_ (Below.mono hb3 (by first | omega | (simp; done) | (simp; omega)))) | (refine Below.trans ?_ (Below.mono hb4 (by first | omega | (simp; done) | (simp; omega)))) | (refine Below.trans ?_ (Below.mono hb5 (by first | omega | (simp; done) | (simp; omega)))) | (refine Below.trans ?_ (Below.mono hb6 (by first | omega | (simp; done) | (simp; omega)))) | (refine Below.trans ?_ (Below.mono hb7 (by first | omega | (simp; done) | (simp; omega)))) | (refine Below.trans ?_ (Below.mono hb8 (by first | omega | (simp; done) | (simp; omega)))) | (refine Below.trans ?_ (Below.mono hb9 (by first | omega | (simp; done) | (simp; omega)))) | (refine Below.trans ?_ (Below.mono hb10 (by first | omega | (simp; done) | (simp; omega)))) | (refine Below.trans ?_ (Below.mono hb11 (by first | omega | (simp; done) | (simp; omega)))) | (refine Below.trans ?_ (Below.mono hb12 (by first | omega | (simp; done) | (simp; omega))))))
  have hz3 := hb3.size
  obtain ⟨x0, x1, x2, x3⟩ := box4k hb3
  simp only [World.size_alloc] at hge hz3
  clear hb3
  have hgl := lt_of_block hl
  have hne' : ((L.length : Int) == 0) = false := beq_eq_false_iff_ne.2 (by omega)
  have hpos : (0 : Int) < (L.length : Int) := by omega
  have l0 := ints_get hl 0 hne
  clear x0 x1 x3
  go_wp2
  go_loopw [6, 7] (fun v i wr => ∃ k : Nat, k ≤ L.length ∧ i = .int .i64 ((k : Int) - 1) ∧ v = .int .i64 (bestUp L a L[0] k) ∧ Below w3.heap.size w3 wr) (fun _ i _ => (intOf i + 1).toNat)
  case atStart => exact ⟨L.length, Nat.le_refl _, rfl, by rw [HEN.out], Below.refl _ _⟩
  case round =>
    obtain ⟨k, hk, rfl, rfl, hB⟩ := hrel
    have hzB := hB.size
    have hBw : Below w.heap.size w wr := hB3.trans (hB.mono (by omega))
    by_cases hlt : 0 < k
    · obtain ⟨m, rfl⟩ : ∃ m, k = m + 1 := ⟨k - 1, by omega⟩
      have c := ints_get ((hB.block gl hgl).trans hl) m (by omega)
      have hs := HST.out m (by omega)
      obtain ⟨x, hx⟩ : ∃ x, L[m] = x := ⟨_, rfl⟩
      rw [hx] at c hs
      have HS := Lib.hid hs
      clear hs hx
      have hm0 : (0 : Int) ≤ ((m + 1 : Nat) : Int) - 1 := by omega
      have hm1 : (((m + 1 : Nat) : Int) - 1).toNat = m := by omega
      have hm2 : ((m + 1 : Nat) : Int) - 1 < (L.length : Int) := by omega
      by_cases hax : a ≤ x
      · go_wp2
        go_roundw
        case rel => exact ⟨m, by omega, by go_num, by rw [HS.out, if_pos hax], hB⟩
        case measure => simp [intOf]
      · go_wp2
        go_roundw
        case rel => exact ⟨m, by omega, by go_num, by rw [HS.out, if_neg hax], hB⟩
        case measure => simp [intOf]
    · have e : k = 0 := by omega
      subst e
      obtain ⟨r0, r1⟩ := HR.out 0
      replace x2 := cell_keep x2 hB
      go_wp2
      go_ret
      exact ⟨by rw [E.out]; rfl, hBw⟩

theorem rTab_in {w : World} {b cap : Nat} {P : Pl} (h : RC w b P) (a : Int) (a0 : 0 ≤ a) (a1 : a < (P.cells.length : Int)) :
    Calls Try.prog 36 #[.agg #[.int .i64 P.rows, .int .i64 P.cols, .slice (some ⟨b, 0, none⟩) P.cells.length cap, .int .i64 P.cursor], .int .i64 a] w fun e w' => e = .returned (.int .i64 (P.seek a 1)) ∧ Below w.heap.size w w' := by
  by_cases hne : 0 < (P.opl P.flds.length).length
  · exact rTab_list h a a0 a1 _ (Lib.hid rfl) hne (P.opl_len _) (Lib.hid (opl_seek_up h.ok a0 a1 hne)) (Lib.hid (fun i => bestUp_range h.ok hne i))
  · have E := Lib.hid (opl_seek_none h.ok a 1 (by omega))
    have hz : (P.opl P.flds.length).length = 0 := by omega
    have HZ := Lib.hid hz
    clear hz
    go_enter Try.func36, Try.ntmps36
    go_wp2_with fail
    refine (rOpens_any (h.below (by with_reducible (repeat (first | exact Below.refl _ _ | assumption | (refine Below.setCell ?_ (by first | omega | (simp; done) | (simp; omega)) _) | (refine Below.alloc ?_ (by first | omega | (simp; done) | (simp; omega)) _) | (refine below_drewN ?_ _) | (refine Below.drew ?_) | (refine Below.trans ?_ (Below.mono hb (by first | omega | (simp; done) | (simp; omega)))) | (refine Below.trans ?_ (Below.mono hb1 (by first | omega | (simp; done) | (simp; omega)))) | (refine Below.trans ?_ (Below.mono hb2 (by first | omega | (simp; done) | (simp; omega)))) | (refine Below.trans ?_ (Below.mono hb3 (by first | omega | (simp; done) | (simp; omega)))) | (refine Below.trans ?_ (Below.mono hb4 (by first | omega | (simp; done) | (simp; omega)))) | (refine Below.trans ?_ (Below.mono hb5 (by first | omega | (simp; done) | (simp; omega)))) | (refine Below.trans ?_ (Below.mono hb6 (by first | omega | (simp; done) | (simp; omega)))) | (refine Below.trans ?_ (Below.mono hb7 (by first | omega | (simp; done) | (simp; omega)))) | (refine Below.trans ?_ (Below.mono hb8 (by first | omega | (simp; done) | (simp; omega)))) | (refine Below.trans ?_ (Below.mono hb9 (by first | omega | (simp; done) | (simp; omega)))) | (refine Below.trans ?_ (Below.mono hb10 (by first | omega | (simp; done) | (simp; omega)))) | (refine Below.trans ?_ (Below.mono hb11 (by first | omega | (simp; done) | (simp; omega)))) | (refine Below.trans ?_ (Below.mono hb12 (by first | omega | (simp; done) | (simp; omega))))))))).mono ?_
    rintro e w3 ⟨gl, cl, rl, rfl, hl, hge, hb3⟩
    rw [HZ.out]
    clear hl
    go_wp2
    go_ret
    exact ⟨by rw [E.out]; rfl, by with_reducible (repeat (first | exact Below.refl _ _ | assumption | (refine Below.setCell ?_ (by first | omega | (simp; done) | (simp; omega)) _) | (refine Below.alloc ?_ (by first | omega | (simp; done) | (simp; omega)) _) | (refine below_drewN ?_ _) | (refine Below.drew ?_) | (refine Below.trans ?_ (Below.mono hb (by first | omega | (simp; done) | (simp; omega)))) | (refine Below.trans ?_ (Below.mono hb1 (by first | omega | (simp; done) | (simp; omega)))) | (refine Below.trans ?_ (Below.mono hb2 (by first | omega | (simp; done) | (simp; omega)))) | (refine Below.trans ?_ (Below.mono hb3 (by first | omega | (simp; done) | (simp; omega)))) | (refine Below.trans ?_ (Below.mono hb4 (by first | omega | (simp; done) | (simp; omega)))) | (refine Below.trans ?_ (Below.mono hb5 (by first | omega | (simp; done) | (simp; omega)))) | (refine Below.trans ?_ (Below.mono hb6 (by first | omega | (simp; done) | (simp; omega)))) | (refine Below.trans ?_ (Below.mono hb7 (by first | omega | (simp; done) | (simp; omega)))) | (refine Below.trans ?_ (Below.mono hb8 (by first | omega | (simp; done) | (simp; omega)))) | (refine Below.trans ?_ (Below.mono hb9 (by first | omega | (simp; done) | (simp; omega)))) | (refine Below.trans ?_ (Below.mono hb10 (by first | omega | (simp; done) | (simp; omega)))) | (refine Below.trans ?_ (Below.mono hb11 (by first | omega | (simp; done) | (simp; omega)))) | (refine Below.trans ?_ (Below.mono hb12 (by first | omega | (simp; done) | (simp; omega))))))⟩
end Go.Proofs.Ytbkddgeocmkegaa
