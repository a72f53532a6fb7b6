/- Lemmas on the way to this seat's statements; they bear no condition of their own. -/
import Derived.Test.YtbkddgeocmkegaaG3
import Derived.Laws.StructEq
/-! '==' of cells and sizes. -/
namespace Go.Proofs.Ytbkddgeocmkegaa
open Go.RowKit
set_option linter.unusedSimpArgs false
set_option linter.unusedVariables false
section
variable {Q : Program} {d : Nat} {xs ys : Array Value} {f : Field} {fs : List Field} {a b : Value} {r s : Bool} {w : World}
theorem eqOne (hn : (f.name == "_") = false) (ha : (part f.type xs f.offset).run Q w = .ok a w) (hb : (part f.type ys f.offset).run Q w = .ok b w) (he : (Op.equalIn d f.type a b).run Q w = .ok r w) : (Op.eqFields d xs ys [f]).run Q w = .ok r w := by
  have hn' : f.name ≠ "_" := by simpa using hn
  simp only [Op.eqFields, if_pos hn', Sem.run_bind, ha, hb, he, Result.andThen_ok]
  cases r <;> simp
theorem eqMore (hn : (f.name == "_") = false) (ha : (part f.type xs f.offset).run Q w = .ok a w) (hb : (part f.type ys f.offset).run Q w = .ok b w) (he : (Op.equalIn d f.type a b).run Q w = .ok r w) (hr : (Op.eqFields d xs ys fs).run Q w = .ok s w) : (Op.eqFields d xs ys (f :: fs)).run Q w = .ok (r && s) w := by
  have hn' : f.name ≠ "_" := by simpa using hn
  rw [Op.eqFields]
  simp only [if_pos hn', Sem.run_bind, ha, hb, he, Result.andThen_ok]
  cases r
  · simp
  · simpa using hr
theorem eqAgg {t : TypeId} {fs : Array Field} (hu : Q.underlying t = some (.struct fs)) (hp : Q.stoodInHeld t = false) (h : (Op.eqFields d xs ys fs.toList).run Q w = .ok r w) : (Op.equalIn (d + 1) t (.agg xs) (.agg ys)).run Q w = .ok r w := by
  have hf : Q.fieldsOf t = fs := by simp [Program.fieldsOf, hu]
  rw [run_equalIn_struct (P := Q) w d t xs ys (by rw [hf]; exact hu) hp, hf]
  exact h
end

theorem eqIn_cell (d : Nat) (w : World) (x y : Cell) : (Op.equalIn (d + 2) 96 (.agg #[.int .u8 x.byte, .bool x.ge, .bool x.start, .int .u8 x.light, .int .u8 x.color]) (.agg #[.int .u8 y.byte, .bool y.ge, .bool y.start, .int .u8 y.light, .int .u8 y.color])).run Try.prog w = .ok (decide (x = y)) w := by
  have h : (Op.equalIn (d + 2) 96 (.agg #[.int .u8 x.byte, .bool x.ge, .bool x.start, .int .u8 x.light, .int .u8 x.color]) (.agg #[.int .u8 y.byte, .bool y.ge, .bool y.start, .int .u8 y.light, .int .u8 y.color])).run Try.prog w = .ok (x.byte == y.byte && (x.ge == y.ge && (x.start == y.start && (x.light == y.light && (x.color == y.color))))) w := by
    refine eqAgg Try.underlying96 (by kernel_rfl) ?_
    refine eqMore (by rfl) (by go_simp; rfl) (by go_simp; rfl) (by go_simp) ?_
    refine eqMore (by rfl) (by go_simp; rfl) (by go_simp; rfl) (by go_simp) ?_
    refine eqMore (by rfl) (by go_simp; rfl) (by go_simp; rfl) (by go_simp) ?_
    refine eqMore (by rfl) (by go_simp; rfl) (by go_simp; rfl) (by go_simp) ?_
    exact eqOne (by rfl) (by go_simp; rfl) (by go_simp; rfl) (by go_simp)
  have e : (x.byte == y.byte && (x.ge == y.ge && (x.start == y.start && (x.light == y.light && (x.color == y.color))))) = decide (x = y) := by
    clear h
    obtain ⟨a1, a2, a3, a4, a5⟩ := x
    obtain ⟨b1, b2, b3, b4, b5⟩ := y
    rw [Bool.eq_iff_iff]
    simp
  rw [← e]
  exact h
theorem eqIn_size (d : Nat) (w : World) (a b c e : Int) : (Op.equalIn (d + 2) 48 (.agg #[.int .i64 a, .int .i64 b]) (.agg #[.int .i64 c, .int .i64 e])).run Try.prog w = .ok (decide (a = c ∧ b = e)) w := by
  have h : (Op.equalIn (d + 2) 48 (.agg #[.int .i64 a, .int .i64 b]) (.agg #[.int .i64 c, .int .i64 e])).run Try.prog w = .ok (a == c && b == e) w := by
    refine eqAgg Try.underlying48 (by kernel_rfl) ?_
    refine eqMore (by rfl) (by go_simp; rfl) (by go_simp; rfl) (by go_simp) ?_
    exact eqOne (by rfl) (by go_simp; rfl) (by go_simp; rfl) (by go_simp)
  have e : (a == c && b == e) = decide (a = c ∧ b = e) := by
    rw [Bool.eq_iff_iff]
    simp
  rw [← e]
  exact h

theorem run_neq_cell (w : World) (x y : Cell) : (binOp .neq 96 (.agg #[.int .u8 x.byte, .bool x.ge, .bool x.start, .int .u8 x.light, .int .u8 x.color]) (.agg #[.int .u8 y.byte, .bool y.ge, .bool y.start, .int .u8 y.light, .int .u8 y.color])).run Try.prog w = .ok (.bool (!decide (x = y))) w := by
  rw [run_neq_struct, eqIn_cell]; rfl
theorem run_eql_cell (w : World) (x y : Cell) : (binOp .eql 96 (.agg #[.int .u8 x.byte, .bool x.ge, .bool x.start, .int .u8 x.light, .int .u8 x.color]) (.agg #[.int .u8 y.byte, .bool y.ge, .bool y.start, .int .u8 y.light, .int .u8 y.color])).run Try.prog w = .ok (.bool (decide (x = y))) w := by
  rw [run_eql_struct, eqIn_cell]; rfl
theorem run_eql_size (w : World) (a b c e : Int) : (binOp .eql 48 (.agg #[.int .i64 a, .int .i64 b]) (.agg #[.int .i64 c, .int .i64 e])).run Try.prog w = .ok (.bool (decide (a = c ∧ b = e))) w := by
  rw [run_eql_struct, eqIn_size]; rfl
end Go.Proofs.Ytbkddgeocmkegaa
