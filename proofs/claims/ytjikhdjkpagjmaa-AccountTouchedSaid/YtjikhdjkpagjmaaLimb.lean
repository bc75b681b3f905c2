/- limb's functions: what they compute, as they compute it (numbers wrapped as Go wraps them). -/
import Derived.Test.YtjikhdjkpagjmaaBase
import Derived.Test.YtjikhdjkpagjmaaNum
namespace Go.Proofs.Ytjikhdjkpagjmaa.Limb
open Go.RowKit
set_option linter.unusedVariables false
set_option linter.unusedSimpArgs false

set_option maxHeartbeats 2000000 in
theorem bit_true (w : World) : Calls Try.prog 31 #[.bool true] w fun e w' => e = .returned (.int .u64 1) ∧ w = w' := by
  go_enter Try.func31, Try.ntmps31
  go_wp2
  go_ret
  exact ⟨rfl, rfl⟩
set_option maxHeartbeats 2000000 in
theorem bit_false (w : World) : Calls Try.prog 31 #[.bool false] w fun e w' => e = .returned (.int .u64 0) ∧ w = w' := by
  go_enter Try.func31, Try.ntmps31
  go_wp2
  go_ret
  exact ⟨rfl, rfl⟩
theorem bit_any (b : Bool) (w : World) : Calls Try.prog 31 #[.bool b] w fun e w' => e = .returned (.int .u64 (bitOf b)) ∧ w = w' := by
  cases b with
  | true => exact bit_true w
  | false => exact bit_false w



set_option maxHeartbeats 2000000 in
theorem add_walk0 (a b c : Int) (w : World) (hc : (c != 0) = false) : Calls Try.prog 38 #[.int .u64 a, .int .u64 b, .int .u64 c] w fun e w' => e = .returned (.tuple #[.int .u64 (IntKind.u64.wrap (a + b)), .int .u64 (bitOf (decide (IntKind.u64.wrap (a + b) < a)))]) ∧ w = w' := by
  go_enter Try.func38, Try.ntmps38
  go_wp2_with (go_at_call 31; refine (bit_any _ _).mono ?_; rintro e w' ⟨rfl, rfl⟩)
  go_ret2
  exact ⟨rfl, rfl⟩

set_option maxHeartbeats 2000000 in
theorem add_walk1 (a b c : Int) (w : World) (hc : (c != 0) = true) : Calls Try.prog 38 #[.int .u64 a, .int .u64 b, .int .u64 c] w fun e w' => e = .returned (.tuple #[.int .u64 (IntKind.u64.wrap (IntKind.u64.wrap (a + b) + 1)), .int .u64 (Go.bits .or .u64 (bitOf (decide (IntKind.u64.wrap (a + b) < a))) (bitOf (IntKind.u64.wrap (IntKind.u64.wrap (a + b) + 1) == 0)))]) ∧ w = w' := by
  go_enter Try.func38, Try.ntmps38
  go_wp2_with (go_at_call 31; refine (bit_any _ _).mono ?_; rintro e w' ⟨rfl, rfl⟩)
  go_ret2
  exact ⟨rfl, rfl⟩

set_option maxHeartbeats 2000000 in
theorem sub_walk0 (a b c : Int) (w : World) (hc : (c != 0) = false) : Calls Try.prog 18 #[.int .u64 a, .int .u64 b, .int .u64 c] w fun e w' => e = .returned (.tuple #[.int .u64 (IntKind.u64.wrap (a - b)), .int .u64 (bitOf (decide (a < b)))]) ∧ w = w' := by
  go_enter Try.func18, Try.ntmps18
  go_wp2_with (go_at_call 31; refine (bit_any _ _).mono ?_; rintro e w' ⟨rfl, rfl⟩)
  go_ret2
  exact ⟨rfl, rfl⟩

set_option maxHeartbeats 2000000 in
theorem sub_walk1 (a b c : Int) (w : World) (hc : (c != 0) = true) : Calls Try.prog 18 #[.int .u64 a, .int .u64 b, .int .u64 c] w fun e w' => e = .returned (.tuple #[.int .u64 (IntKind.u64.wrap (IntKind.u64.wrap (a - b) - 1)), .int .u64 (Go.bits .or .u64 (bitOf (decide (a < b))) (bitOf (IntKind.u64.wrap (a - b) == 0)))]) ∧ w = w' := by
  go_enter Try.func18, Try.ntmps18
  go_wp2_with (go_at_call 31; refine (bit_any _ _).mono ?_; rintro e w' ⟨rfl, rfl⟩)
  go_ret2
  exact ⟨rfl, rfl⟩











/-! ### as numbers -/
def addF (a b c : Int) : Int × Int := if (c != 0) = true then (IntKind.u64.wrap (IntKind.u64.wrap (a + b) + 1), Go.bits .or .u64 (bitOf (decide (IntKind.u64.wrap (a + b) < a))) (bitOf (IntKind.u64.wrap (IntKind.u64.wrap (a + b) + 1) == 0)))
  else (IntKind.u64.wrap (a + b), bitOf (decide (IntKind.u64.wrap (a + b) < a)))
def subF (a b c : Int) : Int × Int := if (c != 0) = true then (IntKind.u64.wrap (IntKind.u64.wrap (a - b) - 1), Go.bits .or .u64 (bitOf (decide (a < b))) (bitOf (IntKind.u64.wrap (a - b) == 0)))
  else (IntKind.u64.wrap (a - b), bitOf (decide (a < b)))
theorem addF_eq {a b c : Int} (ha : U64 a) (hb : U64 b) (hc : bit01 c) : addF a b c = addS a b c := by
  rcases hc with rfl | rfl
  · show (_, _) = (_, _)
    rw [(add_raw0 ha hb).2, (add_raw0 ha hb).1]
  · show (_, _) = (_, _)
    rw [(add_raw1 ha hb).2, (add_raw1 ha hb).1]
theorem subF_eq {a b c : Int} (ha : U64 a) (hb : U64 b) (hc : bit01 c) : subF a b c = subS a b c := by
  rcases hc with rfl | rfl
  · show (_, _) = (_, _)
    rw [(sub_raw0 ha hb).2, (sub_raw0 ha hb).1]
  · show (_, _) = (_, _)
    rw [(sub_raw1 ha hb).2, (sub_raw1 ha hb).1]
theorem add_any (a b c : Int) (w : World) : Calls Try.prog 38 #[.int .u64 a, .int .u64 b, .int .u64 c] w fun e w' => e = .returned (.tuple #[.int .u64 (addF a b c).1, .int .u64 (addF a b c).2]) ∧ w = w' := by
  unfold addF
  by_cases h : (c != 0) = true
  · rw [if_pos h]; exact add_walk1 a b c w h
  · rw [if_neg h]; exact add_walk0 a b c w (Bool.eq_false_iff.2 h)
theorem sub_any (a b c : Int) (w : World) : Calls Try.prog 18 #[.int .u64 a, .int .u64 b, .int .u64 c] w fun e w' => e = .returned (.tuple #[.int .u64 (subF a b c).1, .int .u64 (subF a b c).2]) ∧ w = w' := by
  unfold subF
  by_cases h : (c != 0) = true
  · rw [if_pos h]; exact sub_walk1 a b c w h
  · rw [if_neg h]; exact sub_walk0 a b c w (Bool.eq_false_iff.2 h)
theorem add_calls {a b c : Int} (ha : U64 a) (hb : U64 b) (hc : bit01 c) (w : World) : Calls Try.prog 38 #[.int .u64 a, .int .u64 b, .int .u64 c] w fun e w' => e = .returned (.tuple #[.int .u64 (lo (a + b + c)), .int .u64 (hi (a + b + c))]) ∧ w = w' := by
  have h := add_any a b c w
  rw [addF_eq ha hb hc] at h
  exact h
theorem sub_calls {a b c : Int} (ha : U64 a) (hb : U64 b) (hc : bit01 c) (w : World) : Calls Try.prog 18 #[.int .u64 a, .int .u64 b, .int .u64 c] w fun e w' => e = .returned (.tuple #[.int .u64 (lo (a - b - c)), .int .u64 (- hi (a - b - c))]) ∧ w = w' := by
  have h := sub_any a b c w
  rw [subF_eq ha hb hc] at h
  exact h

end Go.Proofs.Ytjikhdjkpagjmaa.Limb
