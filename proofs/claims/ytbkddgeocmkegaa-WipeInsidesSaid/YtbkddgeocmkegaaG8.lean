/- Lemmas on the way to this seat's statements; they bear no condition of their own. -/
import Derived.Test.YtbkddgeocmkegaaG7
import Derived.Test.YtbkddgeocmkegaaRf
import Derived.OwnWalkIn
import Derived.TacticsInMore
import Derived.LoopNIn
import Derived.LoopIn
namespace Go.Proofs.Ytbkddgeocmkegaa
open Go.RowKit Go.Shelf
set_option linter.unusedSimpArgs false
set_option linter.unusedVariables false
set_option maxHeartbeats 800000
attribute [local go_sem ↓] run_start run_byte run_cols
attribute [local go_sem] Oper.semAt_some

def btwN (n a b : Int) : Nat := (if a < b then b - a else b - a + n).toNat
def btw (n a b : Int) : List Int := List.map (fun (i : Nat) => (a + (i : Int)) % n) (List.range (btwN n a b))
theorem btw_len (n a b : Int) : (btw n a b).length = btwN n a b := by simp [btw]
theorem btw_get (n a b : Int) (k : Nat) (h : k < (btw n a b).length) : (btw n a b)[k] = (a + (k : Int)) % n := by simp [btw]
theorem btwN_pos {n a b : Int} (ha : 0 ≤ a ∧ a < n) (hb : 0 ≤ b ∧ b < n) : 0 < btwN n a b ∧ (btwN n a b : Int) ≤ n := by unfold btwN; split <;> omega
theorem btw_end {n a b : Int} (ha : 0 ≤ a ∧ a < n) (hb : 0 ≤ b ∧ b < n) (k : Nat) (hk : k < btwN n a b) : ((a + (k : Int) + 1) % n = b) ↔ k + 1 = btwN n a b := by
  have hN := btwN_pos ha hb
  by_cases hlt : a + (k : Int) + 1 < n
  · rw [Int.emod_eq_of_lt (by omega) hlt]
    unfold btwN at *
    split at hk <;> split <;> omega
  · by_cases hw : a + (k : Int) + 1 < 2 * n
    · have : (a + (k : Int) + 1) % n = a + (k : Int) + 1 - n := by
        rw [← Int.sub_emod_right, Int.emod_eq_of_lt (by omega) (by omega)]
      rw [this]
      unfold btwN at *
      split at hk <;> split <;> omega
    · omega

theorem Cells_P {P : Pl} (h : P.ok) (w : World) :
    Calls Try.prog 78 #[.agg #[.int .i64 P.rows, .int .i64 P.cols]] w fun e w' => e = .returned (.int .i64 (P.cells.length : Int)) ∧ Below w.heap.size w w' := by
  rw [h.len]
  exact Cells_in _ _ _ h.r1 h.r2 h.c1 h.c2 h.n2

theorem btwN_step {n x b : Int} (hx : 0 ≤ x ∧ x < n) (hb : 0 ≤ b ∧ b < n) (hne : (x + 1) % n ≠ b) : btwN n ((x + 1) % n) b < btwN n x b := by
  by_cases h : x + 1 < n
  · rw [Int.emod_eq_of_lt (by omega) h] at *
    unfold btwN
    split <;> split <;> omega
  · have h0 : (x + 1) % n = 0 := by rw [show x + 1 = n by omega, Int.emod_self]
    rw [h0] at hne ⊢
    unfold btwN
    split <;> split <;> omega

def RdB (B1 B2 B3 : Nat) (r c a b : Int) (_ : Nat) (W : World) : Prop :=
  W.cell? ⟨B1, 0, none⟩ = some (.int .i64 r) ∧ W.cell? ⟨B1, 1, none⟩ = some (.int .i64 c) ∧ W.cell? ⟨B2, 0, none⟩ = some (.int .i64 a) ∧ W.cell? ⟨B3, 0, none⟩ = some (.int .i64 b)

set_option maxRecDepth 100000 in
theorem Between_seq {P : Pl} (hok : P.ok) (B1 B2 B3 : Nat) (a b : Int) (ha : 0 ≤ a ∧ a < (P.cells.length : Int)) (hb : 0 ≤ b ∧ b < (P.cells.length : Int)) :
    SeqL Try.prog 202 #[.pointer (some ⟨B1, 0, none⟩), .pointer (some ⟨B2, 0, none⟩), .pointer (some ⟨B3, 0, none⟩)] ((btw (P.cells.length : Int) a b).map fun x => #[.int .i64 x]) (RdB B1 B2 B3 P.rows P.cols a b) := by
  intro l J Jx W hR hJ hJx hY h0
  have hn := Lib.hid hok.len
  obtain ⟨ha0, ha1⟩ := ha
  obtain ⟨hb0, hb1⟩ := hb
  obtain ⟨c0, c1, c2, c3⟩ := hR 0 W h0
  refine callsIn_of_wp Try.func202 rfl trivial ?_ rfl
  simp only [Try.ntmps202, List.size_toArray, List.length_cons, List.length_nil, Nat.reduceAdd, Nat.reduceSub, Array.replicate_succ, Array.replicate_zero, List.push_toArray, List.append_toArray, List.nil_append, List.cons_append]
  gi_wp2_with fail
  refine ⟨trivial, rfl, CallsIn.mono (callsIn_wide.2 (Cells_P hok _)) ?_⟩
  rintro e w1 ⟨rfl, hb1⟩
  have hz1 := hb1.size
  try simp only [World.size_alloc, World.size_drew, World.size_setCell] at hz1
  obtain ⟨hc1, hf1⟩ := bcell hb1
  have hJ1 := hJ 0 _ _ h0 hb1
  clear hc1 hf1 hb1 c0 c1 c2 c3
  obtain ⟨c0, c1, c2, c3⟩ := hR 0 _ hJ1
  gi_wp2
  gi_loopw [6] (fun x wr => ∃ k : Nat, k < btwN (P.cells.length : Int) a b ∧ x = .int .i64 ((a + (k : Int)) % (P.cells.length : Int)) ∧ J k wr) (fun x _ => btwN (P.cells.length : Int) (intOf x) b)
  case atStart => exact ⟨0, (btwN_pos ⟨ha0, ha1⟩ ⟨hb0, hb1⟩).1, by rw [Int.emod_eq_of_lt (by omega) (by omega)]; simp, hJ1⟩
  case round =>
    obtain ⟨k, hk, rfl, hJk⟩ := hrel
    clear c0 c1 c2 c3
    obtain ⟨c0, c1, c2, c3⟩ := hR k _ hJk
    have hx := Pl.emod_range hok (a + (k : Int))
    have hy0 := hY k wr (by simpa [btw] using hk) hJk
    have E := Lib.hid (btw_end ⟨ha0, ha1⟩ ⟨hb0, hb1⟩ k hk)
    have S := Lib.hid (btwN_step (n := (P.cells.length : Int)) hx ⟨hb0, hb1⟩)
    simp only [List.getElem_map, btw_get] at hy0
    obtain ⟨fn, tmps, assign, body, hy, hRd⟩ := hy0
    gi_wp2
    refine ⟨rfl, hRd.mono ?_⟩
    rintro e W3 (⟨rfl, hJ3⟩ | ⟨rfl, hJx3⟩)
    · clear c0 c1 c2 c3 hy
      obtain ⟨c0, c1, c2, c3⟩ := hR _ _ hJ3
      gi_wp2_with fail
      refine ⟨trivial, rfl, CallsIn.mono (callsIn_wide.2 (Move_P hok _ _ _)) ?_⟩
      rintro e w4 ⟨rfl, hb4⟩
      have hz4 := hb4.size
      try simp only [World.size_alloc, World.size_drew, World.size_setCell] at hz4
      obtain ⟨hc4, hf4⟩ := bcell hb4
      have hJ4 := hJ _ _ _ hJ3 hb4
      clear hc4 hf4 hb4 c0 c1 c2 c3
      obtain ⟨c0, c1, c2, c3⟩ := hR _ _ hJ4
      cases hd : ((a + (k : Int) + 1) % (P.cells.length : Int) == b)
      · have hne : (a + (k : Int) + 1) % (P.cells.length : Int) ≠ b := by simpa using hd
        have hk1 : k + 1 ≠ btwN (P.cells.length : Int) a b := fun e => hne (E.out.2 e)
        have HN := Lib.hid hne
        clear hne
        gi_wp2
        go_roundw
        case rel => exact ⟨k + 1, by omega, by congr 2; push_cast; omega, hJ4⟩
        case measure =>
          simp only [intOf]
          have := S.out (by rw [Int.emod_add_emod]; exact HN.out)
          rw [Int.emod_add_emod] at this
          exact this
      · have hk1 : k + 1 = btwN (P.cells.length : Int) a b := E.out.1 (by simpa using hd)
        have HK := Lib.hid hk1
        clear hk1
        gi_wp2
        refine bodyPost_ret (results_none rfl _ _ _) rfl ?_
        exact ⟨⟨_, rfl⟩, .inl (by simp only [List.length_map, btw_len]; rw [← HK.out]; exact hJ4)⟩
    · gi_wp2
      go_end0
      exact ⟨⟨_, rfl⟩, .inr ⟨k + 1, by simp only [List.length_map, btw_len]; omega, hJx3⟩⟩
end Go.Proofs.Ytbkddgeocmkegaa
