/- Lemmas on the way to this seat's statements; they bear no condition of their own. -/
import Derived.Test.YtbkddgeocmkegaaG9
import Derived.Test.YtbkddgeocmkegaaPs
namespace Go.Proofs.Ytbkddgeocmkegaa
open Go.RowKit Go.Shelf
set_option linter.unusedSimpArgs false
set_option linter.unusedVariables false
set_option maxHeartbeats 2000000
attribute [local go_sem ↓] run_start run_byte run_cols
attribute [local go_sem] Oper.semAt_some

/-- All fields of a plane, in order. -/
def Pl.flds (P : Pl) : List Fld := P.starts.map fun (i : Nat) => P.fld (i : Int)
def fvals (fs : List Fld) : List (Array Value) := fs.map fun f => #[.agg #[.int .i64 f.start, .int .i64 f.len, .int .u8 f.attr]]
theorem fvals_len (fs : List Fld) : (fvals fs).length = fs.length := by simp [fvals]

structure RdA (B g b cap : Nat) (P0 : Pl) (k : Nat) (W : World) : Prop where
  c0 : W.cell? ⟨B, 0, none⟩ = some (.pointer (some ⟨g, 0, none⟩))
  pl : ∃ P, PL W g b cap P ∧ SameSt P0 P ∧ ∀ j i, k ≤ j → P0.starts[j]? = some i → (P.at (i : Int)).byte = (P0.at (i : Int)).byte

set_option maxRecDepth 100000 in
theorem All_seq {P0 : Pl} (hok : P0.ok) (B g b cap : Nat) :
    SeqL Try.prog 167 #[.pointer (some ⟨B, 0, none⟩)] (fvals P0.flds) (RdA B g b cap P0) := by
  intro l J Jx W hR hJ hJx hY h0
  have hm := Pl.N_le hok
  have hn := Pl.N_pos hok
  obtain ⟨c0, P, hP, hS, hby⟩ := hR 0 W h0
  have hSz : SizeOf P0 g b cap W := ⟨P, hP, hS.rows, hS.cols, hS.len⟩
  refine callsIn_of_wp Try.func167 rfl trivial ?_ rfl
  simp only [Try.ntmps167, List.size_toArray, List.length_cons, List.length_nil, Nat.reduceAdd, Nat.reduceSub, Array.replicate_succ, Array.replicate_zero, List.push_toArray, List.append_toArray, List.nil_append, List.cons_append]
  clear hby hS
  gi_wp2_with fail
  refine ⟨trivial, rfl, CallsIn.mono (callsIn_wide.2 (Len_of hSz)) ?_⟩
  rintro e w1 ⟨rfl, hb1⟩
  have hz1 := hb1.size
  try simp only [World.size_alloc, World.size_drew, World.size_setCell] at hz1
  obtain ⟨hc1, hf1⟩ := bcell hb1
  have hJ1 := hJ 0 _ _ h0 hb1
  clear hc1 hf1 hb1 hSz hP P c0
  gi_wp2
  gi_loopw [6] (fun x wr => ∃ i : Nat, i ≤ P0.cells.length ∧ x = .int .i64 (i : Int) ∧ J (P0.cnt i) wr) (fun x _ => P0.cells.length - (intOf x).toNat)
  case atStart => exact ⟨0, Nat.zero_le _, rfl, hJ1⟩
  case round =>
    obtain ⟨i, hi, rfl, hJi⟩ := hrel
    clear hJ1
    by_cases hlt : i < P0.cells.length
    · obtain ⟨c0, P, hP, hS, hby⟩ := hR _ _ hJi
      have hst0 := hS.st (i : Int)
      cases hst : P0.isSt i
      · have hstP : (P.at (i : Int)).start = false := hst0.trans hst
        have hcnt := Lib.hid (show P0.cnt (i + 1) = P0.cnt i by rw [Pl.cnt_succ, hst]; rfl)
        clear hst hst0 hS hby
        gi_wp2_with fail
        refine ⟨trivial, rfl, CallsIn.mono (callsIn_wide.2 (At_any hP _)) ?_⟩
        rintro e w4 ⟨rfl, hb4⟩
        have hz4 := hb4.size
        try simp only [World.size_alloc, World.size_drew, World.size_setCell] at hz4
        obtain ⟨hc4, hf4⟩ := bcell hb4
        have hJ4 := hJ _ _ _ hJi hb4
        clear hc4 hf4 hb4
        gi_wp2
        refine ⟨trivial, ?_⟩
        gi_wp2
        refine ⟨fun _ h => (by cases h), ?_⟩
        gi_wp2
        go_roundw
        case rel => exact ⟨i + 1, by omega, by go_num, by rw [hcnt.out]; exact hJ4⟩
        case measure => simp [intOf]; omega
      · have hstP : (P.at (i : Int)).start = true := hst0.trans hst
        have hat := P0.starts_at hlt hst
        have hF := Lib.hid (hS.fld (i : Int) (hby _ i (Nat.le_refl _) hat))
        have hcnt := Lib.hid (show P0.cnt (i + 1) = P0.cnt i + 1 by rw [Pl.cnt_succ, hst]; rfl)
        have hk : P0.cnt i < (fvals P0.flds).length := by
          rw [fvals_len]; unfold Pl.flds; rw [List.length_map]; exact (List.getElem?_eq_some_iff.1 hat).1
        have hYk : ∀ W1, J (P0.cnt i) W1 → YieldAt Fence.wide 0 Try.prog l #[.agg #[.int .i64 (P0.fld (i : Int)).start, .int .i64 (P0.fld (i : Int)).len, .int .u8 (P0.fld (i : Int)).attr]] W1 fun e W' => (e = .returned (.bool true) ∧ J (P0.cnt i + 1) W') ∨ (e = .returned (.bool false) ∧ Jx (P0.cnt i + 1) W') := by
          intro W1 h1
          have := hY _ W1 hk h1
          have e : (fvals P0.flds)[P0.cnt i] = #[.agg #[.int .i64 (P0.fld (i : Int)).start, .int .i64 (P0.fld (i : Int)).len, .int .u8 (P0.fld (i : Int)).attr]] := by
            have e1 : P0.starts[P0.cnt i]'(List.getElem?_eq_some_iff.1 hat).1 = i := (List.getElem?_eq_some_iff.1 hat).2
            simp only [fvals, Pl.flds, List.getElem_map, e1]
          rw [e] at this
          exact this
        clear hst hst0 hat hby
        gi_wp2_with fail
        refine ⟨trivial, rfl, CallsIn.mono (callsIn_wide.2 (At_any hP _)) ?_⟩
        rintro e w4 ⟨rfl, hb4⟩
        have hz4 := hb4.size
        try simp only [World.size_alloc, World.size_drew, World.size_setCell] at hz4
        obtain ⟨hc4, hf4⟩ := bcell hb4
        have hJ4 := hJ _ _ _ hJi hb4
        have hP4 := hP.below hb4
        clear hc4 hf4 hb4 c0
        have c0 := (hR _ _ hJ4).c0
        gi_wp2_with fail
        refine ⟨trivial, rfl, CallsIn.mono (callsIn_wide.2 (at_any hP4 (i : Int) (by omega) (by rw [hS.len]; omega))) ?_⟩
        rintro e w5 ⟨rfl, hb5⟩
        have hz5 := hb5.size
        try simp only [World.size_alloc, World.size_drew, World.size_setCell] at hz5
        obtain ⟨hc5, hf5⟩ := bcell hb5
        have hJ5 := hJ _ _ _ hJ4 hb5
        rw [hF.out]
        obtain ⟨fn, tmps, assign, body, hy, hRd⟩ := hYk _ hJ5
        clear hc5 hf5 hb5 c0 hYk hY
        gi_wp2
        refine ⟨rfl, hRd.mono ?_⟩
        rintro e W3 (⟨rfl, hJ3⟩ | ⟨rfl, hJ3⟩)
        · gi_wp2
          go_roundw
          case rel => exact ⟨i + 1, by omega, by go_num, by rw [hcnt.out]; exact hJ3⟩
          case measure => simp [intOf]; omega
        · gi_wp2
          refine bodyPost_ret (results_none rfl _ _ _) rfl ?_
          exact ⟨⟨_, rfl⟩, .inr ⟨P0.cnt i + 1, by omega, hJ3⟩⟩
    · obtain rfl : i = P0.cells.length := by omega
      gi_wp2
      go_end0
      exact ⟨⟨_, rfl⟩, .inl (by rw [fvals_len]; unfold Pl.flds; rw [List.length_map, ← Pl.cnt_n]; exact hJi)⟩
end Go.Proofs.Ytbkddgeocmkegaa
