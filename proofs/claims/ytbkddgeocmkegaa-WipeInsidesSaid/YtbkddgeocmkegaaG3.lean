/- Lemmas on the way to this seat's statements; they bear no condition of their own. -/
import Derived.Test.YtbkddgeocmkegaaG2
namespace Go.Proofs.Ytbkddgeocmkegaa
open Go.RowKit
set_option linter.unusedSimpArgs false
set_option linter.unusedVariables false
set_option maxHeartbeats 400000

/-! Attributes. -/
theorem byte_all {α : Type} {f g : Int → α} (h : ∀ n : Fin 256, f (n.val : Int) = g (n.val : Int)) (x : Int) (hx : 0 ≤ x ∧ x ≤ 255) : f x = g x := by
  have := h ⟨x.toNat, by omega⟩
  simpa [Int.toNat_of_nonneg hx.1] using this
theorem bits_32 (x : Int) (h : 0 ≤ x ∧ x ≤ 255) : (bits BinOp.and IntKind.u8 x 32 != 0) = prot x := byte_all (f := fun x => bits BinOp.and IntKind.u8 x 32 != 0) (g := prot) (by decide +kernel) x h
theorem bits_16 (x : Int) (h : 0 ≤ x ∧ x ≤ 255) : (bits BinOp.and IntKind.u8 x 16 != 0) = nume x := byte_all (f := fun x => bits BinOp.and IntKind.u8 x 16 != 0) (g := nume) (by decide +kernel) x h
theorem bits_1 (x : Int) (h : 0 ≤ x ∧ x ≤ 255) : (bits BinOp.and IntKind.u8 x 1 != 0) = mdt x := byte_all (f := fun x => bits BinOp.and IntKind.u8 x 1 != 0) (g := mdt) (by decide +kernel) x h
theorem bits_63 (x : Int) (h : 0 ≤ x ∧ x ≤ 255) : bits BinOp.and IntKind.u8 x 63 = low6 x := byte_all (f := fun x => bits BinOp.and IntKind.u8 x 63) (g := low6) (by decide +kernel) x h
theorem bits_or1 (x : Int) (h : 0 ≤ x ∧ x ≤ 255) : bits BinOp.or IntKind.u8 x 1 = modi x true := byte_all (f := fun x => bits BinOp.or IntKind.u8 x 1) (g := fun x => modi x true) (by decide +kernel) x h
theorem bits_not1 (x : Int) (h : 0 ≤ x ∧ x ≤ 255) : bits BinOp.andNot IntKind.u8 x 1 = modi x false := byte_all (f := fun x => bits BinOp.andNot IntKind.u8 x 1) (g := fun x => modi x false) (by decide +kernel) x h

theorem Protected_any (x : Int) (w : World) (h : 0 ≤ x ∧ x ≤ 255) :
    Calls Try.prog 117 #[.int .u8 x] w fun e w' => e = .returned (.bool (prot x)) ∧ Below w.heap.size w w' := by
  go_enter Try.func117, Try.ntmps117
  go_wp2
  go_ret
  exact ⟨by rw [← bits_32 x h]; rfl, Below.refl _ _⟩
theorem Numeric_any (x : Int) (w : World) (h : 0 ≤ x ∧ x ≤ 255) :
    Calls Try.prog 162 #[.int .u8 x] w fun e w' => e = .returned (.bool (nume x)) ∧ Below w.heap.size w w' := by
  go_enter Try.func162, Try.ntmps162
  go_wp2
  go_ret
  exact ⟨by rw [← bits_16 x h]; rfl, Below.refl _ _⟩
theorem Modified_any (x : Int) (w : World) (h : 0 ≤ x ∧ x ≤ 255) :
    Calls Try.prog 146 #[.int .u8 x] w fun e w' => e = .returned (.bool (mdt x)) ∧ Below w.heap.size w w' := by
  go_enter Try.func146, Try.ntmps146
  go_wp2
  go_ret
  exact ⟨by rw [← bits_1 x h]; rfl, Below.refl _ _⟩
theorem Modify_any (x : Int) (on : Bool) (w : World) (h : 0 ≤ x ∧ x ≤ 255) :
    Calls Try.prog 57 #[.int .u8 x, .bool on] w fun e w' => e = .returned (.int .u8 (modi x on)) ∧ Below w.heap.size w w' := by
  cases on
  · go_enter Try.func57, Try.ntmps57
    go_wp2
    go_ret
    exact ⟨by rw [← bits_not1 x h]; rfl, Below.refl _ _⟩
  · go_enter Try.func57, Try.ntmps57
    go_wp2
    go_ret
    exact ⟨by rw [← bits_or1 x h]; rfl, Below.refl _ _⟩
theorem Skip_any (x : Int) (w : World) (h : 0 ≤ x ∧ x ≤ 255) :
    Calls Try.prog 108 #[.int .u8 x] w fun e w' => e = .returned (.bool (prot x && nume x)) ∧ Below w.heap.size w w' := by
  go_enter Try.func108, Try.ntmps108
  go_wp2_with fail
  refine (Protected_any _ _ h).mono ?_
  rintro e w1 ⟨rfl, hb1⟩
  have hz1 := hb1.size
  try simp only [World.size_alloc, World.size_drew, World.size_setCell] at hz1
  obtain ⟨hc1, hf1⟩ := bcell hb1
  cases hp : prot x
  · go_wp2
    go_ret
    exact ⟨by simp [hp], hb1⟩
  · go_wp2_with fail
    refine (Numeric_any _ _ h).mono ?_
    rintro e w2 ⟨rfl, hb2⟩
    have hz2 := hb2.size
    try simp only [World.size_alloc, World.size_drew, World.size_setCell] at hz2
    obtain ⟨hc2, hf2⟩ := bcell hb2
    go_wp2
    go_ret
    exact ⟨by simp [hp], by with_reducible (repeat (first | exact Below.refl _ _ | assumption | (refine Below.setCell ?_ (by first | omega | (simp; done) | (simp; omega)) _) | (refine Below.alloc ?_ (by first | omega | (simp; done) | (simp; omega)) _) | (refine below_drewN ?_ _) | (refine Below.drew ?_) | (refine Below.trans ?_ (Below.mono hb (by first | omega | (simp; done) | (simp; omega)))) | (refine Below.trans ?_ (Below.mono hb1 (by first | omega | (simp; done) | (simp; omega)))) | (refine Below.trans ?_ (Below.mono hb2 (by first | omega | (simp; done) | (simp; omega)))) | (refine Below.trans ?_ (Below.mono hb3 (by first | omega | (simp; done) | (simp; omega)))) | (refine Below.trans ?_ (Below.mono hb4 (by first | omega | (simp; done) | (simp; omega)))) | (refine Below.trans ?_ (Below.mono hb5 (by first | omega | (simp; done) | (simp; omega)))) | (refine Below.trans ?_ (Below.mono hb6 (by first | omega | (simp; done) | (simp; omega)))) | (refine Below.trans ?_ (Below.mono hb7 (by first | omega | (simp; done) | (simp; omega)))) | (refine Below.trans ?_ (Below.mono hb8 (by first | omega | (simp; done) | (simp; omega)))) | (refine Below.trans ?_ (Below.mono hb9 (by first | omega | (simp; done) | (simp; omega)))) | (refine Below.trans ?_ (Below.mono hb10 (by first | omega | (simp; done) | (simp; omega)))) | (refine Below.trans ?_ (Below.mono hb11 (by first | omega | (simp; done) | (simp; omega)))) | (refine Below.trans ?_ (Below.mono hb12 (by first | omega | (simp; done) | (simp; omega))))))⟩

/-! A field of a struct that is no variable. -/
theorem run_start (w : World) (a b c d e : Value) : (Instr.field 96 (.agg #[a, b, c, d, e]) 2).run Try.prog w = .ok c w := by kernel_rfl
theorem run_byte (w : World) (a b c d e : Value) : (Instr.field 96 (.agg #[a, b, c, d, e]) 0).run Try.prog w = .ok a w := by kernel_rfl
theorem run_cols (w : World) (a b : Value) : (Instr.field 48 (.agg #[a, b]) 1).run Try.prog w = .ok b w := by kernel_rfl

/-! Places. -/
theorem Cells_in (r c : Int) (w : World) (h1 : 1 ≤ r) (h2 : r ≤ 43) (h3 : 1 ≤ c) (h4 : c ≤ 132) (h5 : r * c ≤ 4096) :
    Calls Try.prog 78 #[.agg #[.int .i64 r, .int .i64 c]] w fun e w' => e = .returned (.int .i64 (r * c)) ∧ Below w.heap.size w w' := by
  have h0 : 0 ≤ r * c := Int.mul_nonneg (by omega) (by omega)
  go_enter Try.func78, Try.ntmps78
  go_wp2
  go_ret
  exact ⟨rfl, by with_reducible (repeat (first | exact Below.refl _ _ | assumption | (refine Below.setCell ?_ (by first | omega | (simp; done) | (simp; omega)) _) | (refine Below.alloc ?_ (by first | omega | (simp; done) | (simp; omega)) _) | (refine below_drewN ?_ _) | (refine Below.drew ?_) | (refine Below.trans ?_ (Below.mono hb (by first | omega | (simp; done) | (simp; omega)))) | (refine Below.trans ?_ (Below.mono hb1 (by first | omega | (simp; done) | (simp; omega)))) | (refine Below.trans ?_ (Below.mono hb2 (by first | omega | (simp; done) | (simp; omega)))) | (refine Below.trans ?_ (Below.mono hb3 (by first | omega | (simp; done) | (simp; omega)))) | (refine Below.trans ?_ (Below.mono hb4 (by first | omega | (simp; done) | (simp; omega)))) | (refine Below.trans ?_ (Below.mono hb5 (by first | omega | (simp; done) | (simp; omega)))) | (refine Below.trans ?_ (Below.mono hb6 (by first | omega | (simp; done) | (simp; omega)))) | (refine Below.trans ?_ (Below.mono hb7 (by first | omega | (simp; done) | (simp; omega)))) | (refine Below.trans ?_ (Below.mono hb8 (by first | omega | (simp; done) | (simp; omega)))) | (refine Below.trans ?_ (Below.mono hb9 (by first | omega | (simp; done) | (simp; omega)))) | (refine Below.trans ?_ (Below.mono hb10 (by first | omega | (simp; done) | (simp; omega)))) | (refine Below.trans ?_ (Below.mono hb11 (by first | omega | (simp; done) | (simp; omega)))) | (refine Below.trans ?_ (Below.mono hb12 (by first | omega | (simp; done) | (simp; omega))))))⟩

theorem tmod_lt' {a n : Int} (hn : 0 < n) : -n < a.tmod n ∧ a.tmod n < n := by
  have h1 := Int.tmod_lt_of_pos a hn
  have h2 := Int.lt_tmod_of_pos a hn
  omega
theorem wrap_in {x : Int} (h1 : -9223372036854775808 ≤ x) (h2 : x ≤ 9223372036854775807) : wrap64 x = x := by unfold wrap64; omega
theorem move_math {n a b : Int} (hn : 0 < n) (hn2 : n ≤ 4096) : (wrap64 ((wrap64 (a.tmod n + b.tmod n)).tmod n + n)).tmod n = (a + b) % n := by
  have ha := tmod_lt' (a := a) hn
  have hb := tmod_lt' (a := b) hn
  rw [wrap_in (x := a.tmod n + b.tmod n) (by omega) (by omega)]
  have hs := tmod_lt' (a := a.tmod n + b.tmod n) hn
  rw [wrap_in (by omega) (by omega)]
  have e1 := Int.mul_tdiv_add_tmod a n
  have e2 := Int.mul_tdiv_add_tmod b n
  have e3 := Int.mul_tdiv_add_tmod (a.tmod n + b.tmod n) n
  rw [Int.tmod_eq_emod_of_nonneg (by omega)]
  have : a + b = ((a.tmod n + b.tmod n).tmod n + n) + n * (a.tdiv n + b.tdiv n + (a.tmod n + b.tmod n).tdiv n - 1) := by
    rw [Int.mul_sub, Int.mul_add, Int.mul_add, Int.mul_one]; omega
  rw [this, Int.add_mul_emod_self_left]

theorem Move_any (r c a b n : Int) (w : World) (h1 : 1 ≤ r) (h2 : r ≤ 43) (h3 : 1 ≤ c) (h4 : c ≤ 132) (h5 : r * c ≤ 4096) (hn : Hid (n = r * c)) :
    Calls Try.prog 161 #[.agg #[.int .i64 r, .int .i64 c], .int .i64 a, .int .i64 b] w fun e w' => e = .returned (.int .i64 ((a + b) % n)) ∧ Below w.heap.size w w' := by
  have h0 : 0 < r * c := Int.mul_pos (by omega) (by omega)
  go_enter Try.func161, Try.ntmps161
  go_wp2_with fail
  refine (Cells_in _ _ _ h1 h2 h3 h4 h5).mono ?_
  rintro e w1 ⟨rfl, hb1⟩
  go_wp2
  go_quiet (fail)
  go_wp2
  go_ret
  exact ⟨by rw [hn.out, ← move_math h0 h5]; rfl, by with_reducible (repeat (first | exact Below.refl _ _ | assumption | (refine Below.setCell ?_ (by first | omega | (simp; done) | (simp; omega)) _) | (refine Below.alloc ?_ (by first | omega | (simp; done) | (simp; omega)) _) | (refine below_drewN ?_ _) | (refine Below.drew ?_) | (refine Below.trans ?_ (Below.mono hb (by first | omega | (simp; done) | (simp; omega)))) | (refine Below.trans ?_ (Below.mono hb1 (by first | omega | (simp; done) | (simp; omega)))) | (refine Below.trans ?_ (Below.mono hb2 (by first | omega | (simp; done) | (simp; omega)))) | (refine Below.trans ?_ (Below.mono hb3 (by first | omega | (simp; done) | (simp; omega)))) | (refine Below.trans ?_ (Below.mono hb4 (by first | omega | (simp; done) | (simp; omega)))) | (refine Below.trans ?_ (Below.mono hb5 (by first | omega | (simp; done) | (simp; omega)))) | (refine Below.trans ?_ (Below.mono hb6 (by first | omega | (simp; done) | (simp; omega)))) | (refine Below.trans ?_ (Below.mono hb7 (by first | omega | (simp; done) | (simp; omega)))) | (refine Below.trans ?_ (Below.mono hb8 (by first | omega | (simp; done) | (simp; omega)))) | (refine Below.trans ?_ (Below.mono hb9 (by first | omega | (simp; done) | (simp; omega)))) | (refine Below.trans ?_ (Below.mono hb10 (by first | omega | (simp; done) | (simp; omega)))) | (refine Below.trans ?_ (Below.mono hb11 (by first | omega | (simp; done) | (simp; omega)))) | (refine Below.trans ?_ (Below.mono hb12 (by first | omega | (simp; done) | (simp; omega))))))⟩
theorem Split_in (r c a : Int) (w : World) (h1 : 1 ≤ r) (h2 : r ≤ 43) (h3 : 1 ≤ c) (h4 : c ≤ 132) (h5 : r * c ≤ 4096) (h6 : 0 ≤ a) (h7 : a < r * c) :
    Calls Try.prog 106 #[.agg #[.int .i64 r, .int .i64 c], .int .i64 a] w fun e w' => e = .returned (.tuple #[.int .i64 (a / c), .int .i64 (a % c), .bool true]) ∧ Below w.heap.size w w' := by
  go_enter Try.func106, Try.ntmps106
  go_wp2_with fail
  refine (Cells_in _ _ _ h1 h2 h3 h4 h5).mono ?_
  rintro e w1 ⟨rfl, hb1⟩
  obtain ⟨hc1, hf1⟩ := bcell hb1
  go_wp2
  go_quiet (fail)
  go_wp2
  go_ret3
  exact ⟨by simp, by with_reducible (repeat (first | exact Below.refl _ _ | assumption | (refine Below.setCell ?_ (by first | omega | (simp; done) | (simp; omega)) _) | (refine Below.alloc ?_ (by first | omega | (simp; done) | (simp; omega)) _) | (refine below_drewN ?_ _) | (refine Below.drew ?_) | (refine Below.trans ?_ (Below.mono hb (by first | omega | (simp; done) | (simp; omega)))) | (refine Below.trans ?_ (Below.mono hb1 (by first | omega | (simp; done) | (simp; omega)))) | (refine Below.trans ?_ (Below.mono hb2 (by first | omega | (simp; done) | (simp; omega)))) | (refine Below.trans ?_ (Below.mono hb3 (by first | omega | (simp; done) | (simp; omega)))) | (refine Below.trans ?_ (Below.mono hb4 (by first | omega | (simp; done) | (simp; omega)))) | (refine Below.trans ?_ (Below.mono hb5 (by first | omega | (simp; done) | (simp; omega)))) | (refine Below.trans ?_ (Below.mono hb6 (by first | omega | (simp; done) | (simp; omega)))) | (refine Below.trans ?_ (Below.mono hb7 (by first | omega | (simp; done) | (simp; omega)))) | (refine Below.trans ?_ (Below.mono hb8 (by first | omega | (simp; done) | (simp; omega)))) | (refine Below.trans ?_ (Below.mono hb9 (by first | omega | (simp; done) | (simp; omega)))) | (refine Below.trans ?_ (Below.mono hb10 (by first | omega | (simp; done) | (simp; omega)))) | (refine Below.trans ?_ (Below.mono hb11 (by first | omega | (simp; done) | (simp; omega)))) | (refine Below.trans ?_ (Below.mono hb12 (by first | omega | (simp; done) | (simp; omega))))))⟩
theorem Move_P {P : Pl} (h : P.ok) (a b : Int) (w : World) :
    Calls Try.prog 161 #[.agg #[.int .i64 P.rows, .int .i64 P.cols], .int .i64 a, .int .i64 b] w fun e w' => e = .returned (.int .i64 ((a + b) % (P.cells.length : Int))) ∧ Below w.heap.size w w' :=
  Move_any _ _ _ _ _ _ h.r1 h.r2 h.c1 h.c2 h.n2 h.len
end Go.Proofs.Ytbkddgeocmkegaa
