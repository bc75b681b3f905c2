/- Two arrays of whole numbers: are they one? -/
import Derived.Test.YtjikhdjkpagjmaaBase
import Derived.Test.YtjikhdjkpagjmaaNum
import Derived.ChangeKeysEq
import Derived.Laws.StructEq
set_option linter.unusedVariables false
set_option linter.unusedSimpArgs false
namespace Go.Proofs.Ytjikhdjkpagjmaa
open Go.RowKit
theorem item_u64 (d off : Nat) (xs ys : Array Value) (x y : Int) (w : World) (hx : xs[off]? = some (.int .u64 x)) (hy : ys[off]? = some (.int .u64 y)) (r : Bool → Sem Bool) :
    Sem.run Try.prog (do
      let a ← part 30 xs off
      let b ← part 30 ys off
      let q ← Op.equalIn (d + 1) 30 a b
      r q) w = Sem.run Try.prog (r (x == y)) w := by
  have hp : Try.prog.plainKey 30 = true := by kernel_rfl
  have hu : Try.prog.underlying 30 = some (.int .u64) := by kernel_rfl
  simp only [Sem.run_bind, run_part_plain _ hp hx, run_part_plain _ hp hy, Result.andThen_ok]
  have e : (Op.equalIn (d + 1) 30 (.int .u64 x) (.int .u64 y)).run Try.prog w = .ok (x == y) w := by
    simp [Op.equalIn, run_underlying hu]
  rw [e]
  rfl
theorem eqs4 (d : Nat) (x0 x1 x2 x3 y0 y1 y2 y3 : Int) (w : World) :
    Sem.run Try.prog (Op.eqItems (d + 1) 30 (Try.prog.cellsOf 30) #[.int .u64 x0, .int .u64 x1, .int .u64 x2, .int .u64 x3] #[.int .u64 y0, .int .u64 y1, .int .u64 y2, .int .u64 y3] (List.range 4)) w
      = .ok (x0 == y0 && (x1 == y1 && (x2 == y2 && x3 == y3))) w := by
  have hc : Try.prog.cellsOf 30 = 1 := by kernel_rfl
  have hr : List.range 4 = [0, 1, 2, 3] := rfl
  rw [hc, hr]
  simp only [Op.eqItems, Nat.zero_mul, Nat.one_mul, Nat.mul_one]
  rw [item_u64 d 0 _ _ x0 y0 w rfl rfl]
  cases h0 : (x0 == y0)
  · simp
  simp only [Bool.not_true, Bool.false_eq_true, if_false, Bool.true_and]
  rw [item_u64 d 1 _ _ x1 y1 w rfl rfl]
  cases h1 : (x1 == y1)
  · simp
  simp only [Bool.not_true, Bool.false_eq_true, if_false, Bool.true_and]
  rw [item_u64 d 2 _ _ x2 y2 w rfl rfl]
  cases h2 : (x2 == y2)
  · simp
  simp only [Bool.not_true, Bool.false_eq_true, if_false, Bool.true_and]
  rw [item_u64 d 3 _ _ x3 y3 w rfl rfl]
  cases h3 : (x3 == y3) <;> simp
theorem eql_int (x0 x1 x2 x3 y0 y1 y2 y3 : Int) (w : World) :
    Sem.run Try.prog (binOp .eql 32 (.agg #[.int .u64 x0, .int .u64 x1, .int .u64 x2, .int .u64 x3]) (.agg #[.int .u64 y0, .int .u64 y1, .int .u64 y2, .int .u64 y3])) w
      = .ok (.bool (x0 == y0 && (x1 == y1 && (x2 == y2 && x3 == y3)))) w := by
  have hu : Try.prog.underlying 32 = some (.array 4 30) := by kernel_rfl
  obtain ⟨i, hi⟩ := info_of_underlying (show Try.prog.underlying 30 = some (.int .u64) by kernel_rfl)
  rw [run_eql_struct, run_equalIn_array w 9999 _ _ hu hi, eqs4 9998]
  rfl
end Go.Proofs.Ytjikhdjkpagjmaa
