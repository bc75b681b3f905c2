/- The chapter's example lives. -/
import Derived.Test.YtjikhdjkpagjmaaAcE
import Derived.Test.YtjikhdjkpagjmaaEq
set_option linter.unusedVariables false
set_option linter.unusedSimpArgs false
namespace Go.Proofs.Ytjikhdjkpagjmaa.Ac
open Go.RowKit Go.Proofs.YtjikhdjkpagjmaaW.PrintWords
def xE (i : Nat) : Array Value := if i = 0 then #[.int .u8 0, .int .u64 0, .int .u8 0, .int .u8 0, .int .u8 0, .int .u8 0, .int .u8 0, .int .u8 0, .int .u8 0, .int .u8 0, .int .u8 0, .int .u8 0, .int .u8 0, .int .u8 0, .int .u8 0, .int .u8 0, .int .u8 0, .int .u8 0, .int .u8 0, .int .u8 0, .int .u8 0, .int .u8 0, .int .u8 0, .int .u8 0, .int .u8 0, .int .u8 0, .int .u8 0, .int .u8 0, .int .u8 0, .int .u8 0, .int .u8 0, .int .u8 0, .int .u8 0, .int .u8 0, .int .u8 0, .int .u8 0, .int .u8 0, .int .u8 1, .int .u64 5, .int .u64 0, .int .u64 0, .int .u64 0, .int .u64 0, .int .u64 0, .int .u64 0, .int .u64 0, .int .u32 0] else #[.int .u8 9, .int .u64 0, .int .u8 0, .int .u8 0, .int .u8 0, .int .u8 0, .int .u8 0, .int .u8 0, .int .u8 0, .int .u8 0, .int .u8 0, .int .u8 0, .int .u8 0, .int .u8 0, .int .u8 0, .int .u8 0, .int .u8 0, .int .u8 0, .int .u8 0, .int .u8 0, .int .u8 0, .int .u8 0, .int .u8 0, .int .u8 0, .int .u8 0, .int .u8 0, .int .u8 0, .int .u8 0, .int .u8 0, .int .u8 0, .int .u8 0, .int .u8 0, .int .u8 0, .int .u8 0, .int .u8 0, .int .u8 0, .int .u8 1, .int .u8 0, .int .u64 2, .int .u64 0, .int .u64 0, .int .u64 0, .int .u64 0, .int .u64 0, .int .u64 0, .int .u64 0, .int .u32 0]
theorem xE_row {w : World} {b : Nat} (h : BlkAt w b (xE 0 ++ xE 1) 40) : EvRow w (some ⟨b, 0, none⟩) 2 xE xK xZ xZ xF xR := by
  refine ⟨fun i hi => ?_, fun i hi => ⟨b, 0, rfl, blk_lt h, fun j v hv => ?_⟩⟩
  · rcases (by omega : i = 0 ∨ i = 1) with rfl | rfl
    · exact ⟨rfl, by kernel_rfl, rfl, rfl, rfl, rfl, rfl⟩
    · exact ⟨rfl, by kernel_rfl, rfl, rfl, rfl, rfl, rfl⟩
  · rw [blk_cell h]
    have h0 : (xE 0).size = 47 := rfl
    rw [Array.getElem?_toList] at hv
    rcases (by omega : i = 0 ∨ i = 1) with rfl | rfl
    · have hj : j < 47 := by
        rcases Nat.lt_or_ge j 47 with h1 | h1
        · exact h1
        · rw [Array.getElem?_eq_none (by omega)] at hv; cases hv
      rw [Array.getElem?_append_left (by omega), show 0 + 0 * 47 + j = j by omega]
      exact hv
    · rw [Array.getElem?_append_right (by omega), h0, show 0 + 1 * 47 + j - 47 = j by omega]
      exact hv
theorem xE_am : ∀ i, i < 2 → ∀ j, j < 4 → (xE i)[38 + j]? = some (.int .u64 (xA i j)) := by
  intro i hi j hj
  rcases (by omega : i = 0 ∨ i = 1) with rfl | rfl <;> rcases (by omega : j = 0 ∨ j = 1 ∨ j = 2 ∨ j = 3) with rfl | rfl | rfl | rfl <;> rfl
theorem xE_lit : xE 0 ++ xE 1 = #[.int .u8 0, .int .u64 0, .int .u8 0, .int .u8 0, .int .u8 0, .int .u8 0, .int .u8 0, .int .u8 0, .int .u8 0, .int .u8 0, .int .u8 0, .int .u8 0, .int .u8 0, .int .u8 0, .int .u8 0, .int .u8 0, .int .u8 0, .int .u8 0, .int .u8 0, .int .u8 0, .int .u8 0, .int .u8 0, .int .u8 0, .int .u8 0, .int .u8 0, .int .u8 0, .int .u8 0, .int .u8 0, .int .u8 0, .int .u8 0, .int .u8 0, .int .u8 0, .int .u8 0, .int .u8 0, .int .u8 0, .int .u8 0, .int .u8 0, .int .u8 1, .int .u64 5, .int .u64 0, .int .u64 0, .int .u64 0, .int .u64 0, .int .u64 0, .int .u64 0, .int .u64 0, .int .u32 0, .int .u8 9, .int .u64 0, .int .u8 0, .int .u8 0, .int .u8 0, .int .u8 0, .int .u8 0, .int .u8 0, .int .u8 0, .int .u8 0, .int .u8 0, .int .u8 0, .int .u8 0, .int .u8 0, .int .u8 0, .int .u8 0, .int .u8 0, .int .u8 0, .int .u8 0, .int .u8 0, .int .u8 0, .int .u8 0, .int .u8 0, .int .u8 0, .int .u8 0, .int .u8 0, .int .u8 0, .int .u8 0, .int .u8 0, .int .u8 0, .int .u8 0, .int .u8 0, .int .u8 0, .int .u8 0, .int .u8 0, .int .u8 0, .int .u8 1, .int .u8 0, .int .u64 2, .int .u64 0, .int .u64 0, .int .u64 0, .int .u64 0, .int .u64 0, .int .u64 0, .int .u64 0, .int .u32 0] := by kernel_rfl
set_option maxHeartbeats 8000000 in
set_option maxRecDepth 100000 in
theorem lives_calls (w : World) : Calls Try.prog 4 #[] w fun e w' => e = .returned (.bool true) ∧ Below w.heap.size w w' := by
  have he : ∀ W, Sem.run Try.prog (binOp .eql 32 (.agg #[.int .u64 3, .int .u64 0, .int .u64 0, .int .u64 0]) (.agg #[.int .u64 3, .int .u64 0, .int .u64 0, .int .u64 0])) W = .ok (.bool true) W := fun W => by rw [eql_int]; rfl
  go_enter Try.func4, Try.ntmps4
  go_wp2_with fail
  (go_at_call 7; (with_reducible refine (balance_two _ (xE_row ?hb) xE_am).mono ?_))
  case hb => rw [xE_lit]; exact blk_new rfl
  rintro e w1 ⟨rfl, hb1⟩
  have hz1 := hb1.size
  simp only [go_sem, World.size_alloc] at hz1
  have hbw : Hid (Below w.heap.size w w1) := Lib.hid (by repeat (first | with_reducible exact Below.refl _ _ | (with_reducible assumption) | with_reducible apply bdrewN | with_reducible apply below_drew1 | with_reducible apply below_al | ((with_reducible refine below_set ?_ ?_); focus (first | omega | (simp [go_sem]; done) | (simp [go_sem]; omega))) | with_reducible refine below_then ?_ hb1))
  clear hb1
  go_wp2_with fail
  refine bodyPost_ret (v := .bool true) (by simp [results, Try.results4, go_sem]) rfl ⟨rfl, ?_⟩
  have hbw' := hbw.out
  repeat (first | with_reducible exact Below.refl _ _ | (with_reducible assumption) | with_reducible apply bdrewN | with_reducible apply below_drew1 | with_reducible apply below_al | ((with_reducible refine below_set ?_ ?_); focus (first | omega | (simp [go_sem]; done) | (simp [go_sem]; omega))))
end Go.Proofs.Ytjikhdjkpagjmaa.Ac
