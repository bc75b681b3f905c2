/- audit.Picture's Check, of two pictures; the chapter's example. -/
import Derived.Test.YtgjdegahofoalaaWr0
import Derived.Test.YtgjdegahofoalaaWr00
import Derived.Test.YtgjdegahofoalaaWr1
import Derived.Test.YtgjdegahofoalaaWr2
import Derived.Test.YtgjdegahofoalaaWr3
import Derived.Test.YtgjdegahofoalaaWr4
import Derived.Test.YtgjdegahofoalaaWds
import Derived.Laws.Rows
set_option linter.unusedVariables false
set_option linter.unusedSimpArgs false
namespace Go.Proofs.Ytgjdegahofoalaa.Audit
open Go.RowKit

/-- A picture of noughts, but for one number. -/
def pic (x : Int) : Array Value := ((List.replicate 24 (Value.int .u64 0)) ++ .int .u64 x :: (List.replicate 139 (Value.int .u64 0))).toArray
set_option maxRecDepth 100000 in
theorem pic_size (x : Int) : (pic x).size = 164 := rfl
/-- Does a kind not fit, of a token? -/
def bad (x : Int) (k t : Nat) : Bool := decide (x = 1) && (decide (t = 2) && (decide (k = 1) || decide (k = 4)))
set_option maxRecDepth 100000 in
set_option maxHeartbeats 4000000 in
theorem wrong_pic (x : Int) (hx : x = 0 ∨ x = 1) (k t : Nat) (hk : k ≤ 4) (ht : t < 4) (w : World) :
    Calls Try.prog 14 #[.agg (pic x), .int .u8 (k : Int), .int .u8 (t : Int)] w fun e w' => e = .returned (.bool (bad x k t)) ∧ Below w.heap.size w w' := by
  obtain rfl | rfl | rfl | rfl | rfl : k = 0 ∨ k = 1 ∨ k = 2 ∨ k = 3 ∨ k = 4 := by omega
  · obtain rfl | rfl | rfl | rfl : t = 0 ∨ t = 1 ∨ t = 2 ∨ t = 3 := by omega
    · rcases hx with rfl | rfl <;> exact wr_0_0_0 _ w rfl rfl rfl rfl rfl rfl rfl rfl rfl rfl rfl rfl rfl rfl rfl rfl rfl rfl rfl rfl rfl rfl rfl rfl rfl rfl rfl rfl
    · rcases hx with rfl | rfl <;> exact wr_0_1_0 _ w rfl rfl rfl rfl rfl rfl rfl rfl rfl rfl rfl rfl rfl rfl rfl rfl rfl rfl rfl rfl rfl rfl rfl rfl
    · rcases hx with rfl | rfl <;> exact wr_0_2_0 _ w rfl rfl rfl rfl rfl rfl rfl rfl rfl rfl rfl rfl rfl rfl rfl rfl rfl rfl rfl rfl rfl rfl rfl rfl
    · rcases hx with rfl | rfl <;> exact wr_0_3_0 _ w rfl rfl rfl rfl rfl rfl rfl rfl rfl rfl rfl rfl rfl rfl rfl rfl rfl rfl rfl rfl rfl rfl rfl rfl
  · obtain rfl | rfl | rfl | rfl : t = 0 ∨ t = 1 ∨ t = 2 ∨ t = 3 := by omega
    · rcases hx with rfl | rfl <;> exact wr_1_0_0 _ w rfl rfl rfl rfl rfl rfl rfl rfl rfl rfl rfl rfl rfl rfl rfl rfl rfl rfl rfl rfl rfl rfl rfl rfl rfl rfl rfl rfl
    · rcases hx with rfl | rfl <;> exact wr_1_1_0 _ w rfl rfl rfl rfl rfl rfl rfl rfl rfl rfl rfl rfl rfl rfl rfl rfl rfl rfl rfl rfl rfl rfl rfl rfl rfl rfl rfl rfl
    · rcases hx with rfl | rfl
      · exact wr_1_2_0 _ w rfl rfl rfl rfl rfl rfl rfl rfl rfl rfl rfl rfl rfl rfl rfl rfl rfl rfl rfl rfl rfl rfl rfl rfl rfl rfl rfl rfl
      · exact wr_1_2_1 _ w rfl rfl rfl rfl rfl rfl rfl rfl rfl rfl rfl rfl rfl rfl rfl rfl rfl rfl rfl rfl rfl rfl rfl rfl rfl rfl rfl rfl
    · rcases hx with rfl | rfl <;> exact wr_1_3_0 _ w rfl rfl rfl rfl rfl rfl rfl rfl rfl rfl rfl rfl rfl rfl rfl rfl rfl rfl rfl rfl rfl rfl rfl rfl rfl rfl rfl rfl
  · obtain rfl | rfl | rfl | rfl : t = 0 ∨ t = 1 ∨ t = 2 ∨ t = 3 := by omega
    · rcases hx with rfl | rfl <;> exact wr_2_0_0 _ w rfl rfl rfl rfl rfl rfl rfl rfl rfl rfl rfl rfl rfl rfl rfl rfl
    · rcases hx with rfl | rfl <;> exact wr_2_1_0 _ w rfl rfl rfl rfl rfl rfl rfl rfl rfl rfl rfl rfl rfl rfl rfl rfl
    · rcases hx with rfl | rfl <;> exact wr_2_2_0 _ w rfl rfl rfl rfl rfl rfl rfl rfl rfl rfl rfl rfl rfl rfl rfl rfl
    · rcases hx with rfl | rfl <;> exact wr_2_3_0 _ w rfl rfl rfl rfl rfl rfl rfl rfl rfl rfl rfl rfl rfl rfl rfl rfl
  · obtain rfl | rfl | rfl | rfl : t = 0 ∨ t = 1 ∨ t = 2 ∨ t = 3 := by omega
    · rcases hx with rfl | rfl <;> exact wr_3_0_0 _ w rfl rfl rfl rfl rfl rfl rfl rfl rfl rfl rfl rfl rfl rfl rfl rfl rfl rfl rfl rfl
    · rcases hx with rfl | rfl <;> exact wr_3_1_0 _ w rfl rfl rfl rfl rfl rfl rfl rfl rfl rfl rfl rfl rfl rfl rfl rfl rfl rfl rfl rfl
    · rcases hx with rfl | rfl <;> exact wr_3_2_0 _ w rfl rfl rfl rfl rfl rfl rfl rfl rfl rfl rfl rfl rfl rfl rfl rfl rfl rfl rfl rfl
    · rcases hx with rfl | rfl <;> exact wr_3_3_0 _ w rfl rfl rfl rfl rfl rfl rfl rfl rfl rfl rfl rfl rfl rfl rfl rfl rfl rfl rfl rfl
  · obtain rfl | rfl | rfl | rfl : t = 0 ∨ t = 1 ∨ t = 2 ∨ t = 3 := by omega
    · rcases hx with rfl | rfl <;> exact wr_4_0_0 _ w rfl rfl rfl rfl rfl rfl rfl rfl rfl rfl rfl rfl rfl rfl rfl rfl rfl rfl rfl rfl rfl rfl rfl rfl rfl rfl rfl rfl
    · rcases hx with rfl | rfl <;> exact wr_4_1_0 _ w rfl rfl rfl rfl rfl rfl rfl rfl rfl rfl rfl rfl rfl rfl rfl rfl rfl rfl rfl rfl rfl rfl rfl rfl rfl rfl rfl rfl
    · rcases hx with rfl | rfl
      · exact wr_4_2_0 _ w rfl rfl rfl rfl rfl rfl rfl rfl rfl rfl rfl rfl rfl rfl rfl rfl rfl rfl rfl rfl rfl rfl rfl rfl rfl rfl rfl rfl
      · exact wr_4_2_1 _ w rfl rfl rfl rfl rfl rfl rfl rfl rfl rfl rfl rfl rfl rfl rfl rfl rfl rfl rfl rfl rfl rfl rfl rfl rfl rfl rfl rfl
    · rcases hx with rfl | rfl <;> exact wr_4_3_0 _ w rfl rfl rfl rfl rfl rfl rfl rfl rfl rfl rfl rfl rfl rfl rfl rfl rfl rfl rfl rfl rfl rfl rfl rfl rfl rfl rfl rfl
end Go.Proofs.Ytgjdegahofoalaa.Audit
