/- huge.Cmp in numbers; share.more in two cases; products by numbers. -/
import Derived.Test.YtgjdegahofoalaaShare
import Derived.Test.YtgjdegahofoalaaHuge
import Derived.Test.YtgjdegahofoalaaRefNum
import Derived.Test.YtgjdegahofoalaaEq
set_option linter.unusedVariables false
set_option linter.unusedSimpArgs false
namespace Go.Proofs.Ytgjdegahofoalaa.Huge
open Go.RowKit
theorem lt_of_limbs {a b : Int} (ua : U256 a) (ub : U256 b) :
    (L3 a < L3 b → a < b) ∧ (L3 a = L3 b → L2 a < L2 b → a < b) ∧ (L3 a = L3 b → L2 a = L2 b → L1 a < L1 b → a < b) ∧ (L3 a = L3 b → L2 a = L2 b → L1 a = L1 b → L0 a < L0 b → a < b) ∧ (L3 a = L3 b → L2 a = L2 b → L1 a = L1 b → L0 a = L0 b → a = b) := by
  have ha := V4_L ua
  have hb := V4_L ub
  have a0 := L0_u a
  have a1 := L1_u a
  have a2 := L2_u a
  have a3 := L3_u a
  have b0 := L0_u b
  have b1 := L1_u b
  have b2 := L2_u b
  have b3 := L3_u b
  unfold U64 at a0 a1 a2 a3 b0 b1 b2 b3
  unfold V4 at ha hb
  refine ⟨?_, ?_, ?_, ?_, ?_⟩ <;> intros <;> omega
theorem cmp_calls {a b : Int} (ua : U256 a) (ub : U256 b) (w : World) : Calls Try.prog 17 #[A4 a, A4 b] w fun e w' => e = .returned (.int .i64 (RN.sgn a b)) ∧ Below w.heap.size w w' := by
  have hl := lt_of_limbs ua ub
  have hg := lt_of_limbs ub ua
  have slt : a < b → RN.sgn a b = -1 := fun h => by unfold RN.sgn; rw [if_pos h]
  have sgt : b < a → RN.sgn a b = 1 := fun h => by unfold RN.sgn; rw [if_neg (by omega), if_pos h]
  have seq : a = b → RN.sgn a b = 0 := fun h => by unfold RN.sgn; rw [if_neg (by omega), if_neg (by omega)]
  by_cases p3 : L3 a < L3 b
  · rw [slt (hl.1 p3)]
    exact cmp_walklt3 _ _ _ _ _ _ _ _ w p3
  by_cases q3 : L3 b < L3 a
  · rw [sgt (hg.1 q3)]
    exact cmp_walkgt3 _ _ _ _ _ _ _ _ w p3 q3
  have e3 : L3 a = L3 b := by omega
  by_cases p2 : L2 a < L2 b
  · rw [slt (hl.2.1 e3 p2)]
    exact cmp_walklt2 _ _ _ _ _ _ _ _ w p3 q3 p2
  by_cases q2 : L2 b < L2 a
  · rw [sgt (hg.2.1 e3.symm q2)]
    exact cmp_walkgt2 _ _ _ _ _ _ _ _ w p3 q3 p2 q2
  have e2 : L2 a = L2 b := by omega
  by_cases p1 : L1 a < L1 b
  · rw [slt (hl.2.2.1 e3 e2 p1)]
    exact cmp_walklt1 _ _ _ _ _ _ _ _ w p3 q3 p2 q2 p1
  by_cases q1 : L1 b < L1 a
  · rw [sgt (hg.2.2.1 e3.symm e2.symm q1)]
    exact cmp_walkgt1 _ _ _ _ _ _ _ _ w p3 q3 p2 q2 p1 q1
  have e1 : L1 a = L1 b := by omega
  by_cases p0 : L0 a < L0 b
  · rw [slt (hl.2.2.2.1 e3 e2 e1 p0)]
    exact cmp_walklt0 _ _ _ _ _ _ _ _ w p3 q3 p2 q2 p1 q1 p0
  by_cases q0 : L0 b < L0 a
  · rw [sgt (hg.2.2.2.1 e3.symm e2.symm e1.symm q0)]
    exact cmp_walkgt0 _ _ _ _ _ _ _ _ w p3 q3 p2 q2 p1 q1 p0 q0
  have e0 : L0 a = L0 b := by omega
  rw [seq (hl.2.2.2.2 e3 e2 e1 e0)]
  exact cmp_walkeq _ _ _ _ _ _ _ _ w p3 q3 p2 q2 p1 q1 p0 q0
theorem zero_eq {n : Int} (h : U256 n) : (L0 n == 0 && (L1 n == 0 && (L2 n == 0 && L3 n == 0))) = decide (n = 0) := by
  have hv := V4_L h
  have a0 := L0_u n
  have a1 := L1_u n
  have a2 := L2_u n
  have a3 := L3_u n
  unfold U64 at a0 a1 a2 a3
  unfold V4 at hv
  rw [Bool.eq_iff_iff]
  simp only [Bool.and_eq_true, beq_iff_eq, decide_eq_true_eq]
  omega
/-- Is a number of 256 bits 0? -/
theorem eql_zero {n : Int} (h : U256 n) (w : World) :
    Sem.run Try.prog (binOp .eql 24 (.agg #[.int .u64 (L0 n), .int .u64 (L1 n), .int .u64 (L2 n), .int .u64 (L3 n)]) (.agg #[.int .u64 0, .int .u64 0, .int .u64 0, .int .u64 0])) w = .ok (.bool (decide (n = 0))) w := by
  rw [eql_int, zero_eq h]
theorem item_zero {n : Int} (h : U256 n) (w : World) :
    Sem.run Try.prog (Op.equalIn 10000 24 (.agg #[.int .u64 (L0 n), .int .u64 (L1 n), .int .u64 (L2 n), .int .u64 (L3 n)]) (.agg #[.int .u64 0, .int .u64 0, .int .u64 0, .int .u64 0])) w = .ok (decide (n = 0)) w := by
  have hu : Try.prog.underlying 24 = some (.array 4 22) := by kernel_rfl
  obtain ⟨i, hi⟩ := info_of_underlying (show Try.prog.underlying 22 = some (.int .u64) by kernel_rfl)
  rw [run_equalIn_array w 9999 _ _ hu hi, eqs4 9998, zero_eq h]
end Go.Proofs.Ytgjdegahofoalaa.Huge
namespace Go.Proofs.Ytgjdegahofoalaa.Share
open Go.RowKit Go.Proofs.Ytgjdegahofoalaa.Huge
theorem more_fits {a b : Int} (ua : U256 a) (ub : U256 b) (ha : a + 1 < 115792089237316195423570985008687907853269984665640564039457584007913129639936) (hb : b + 1 < 115792089237316195423570985008687907853269984665640564039457584007913129639936) (w : World) :
    Calls Try.prog 18 #[A4 a, A4 b] w fun e w' => e = .returned (.tuple #[A4 (a + 1), A4 (b + 1), .int .i64 0]) ∧ Below w.heap.size w w' := by
  have h := more_ge ua ub w (by unfold addE; rw [if_pos ha, if_pos hb]; decide)
  unfold addN addE at h
  rw [if_pos ha, if_pos ha, if_pos hb] at h
  exact h
theorem more_over {a b : Int} (ua : U256 a) (ub : U256 b) (ho : 115792089237316195423570985008687907853269984665640564039457584007913129639936 ≤ a + 1 ∨ 115792089237316195423570985008687907853269984665640564039457584007913129639936 ≤ b + 1) (w : World) :
    Calls Try.prog 18 #[A4 a, A4 b] w fun e w' => e = .returned (.tuple #[A4 (addN a 1), A4 (addN b 1), .int .i64 2]) ∧ Below w.heap.size w w' := by
  by_cases he : addE a 1 < addE b 1
  · have h := more_lt ua ub w he
    have e2 : addE b 1 = 2 := by
      unfold addE at *
      by_cases h1 : b + 1 < 115792089237316195423570985008687907853269984665640564039457584007913129639936
      · rw [if_pos h1] at he
        split at he <;> omega
      · rw [if_neg h1]
    rw [e2] at h
    exact h
  · have h := more_ge ua ub w he
    have e2 : addE a 1 = 2 := by
      unfold addE at *
      by_cases h2 : a + 1 < 115792089237316195423570985008687907853269984665640564039457584007913129639936
      · rw [if_pos h2] at he
        by_cases h1 : b + 1 < 115792089237316195423570985008687907853269984665640564039457584007913129639936
        · omega
        · rw [if_neg h1] at he
          omega
      · rw [if_neg h2]
    rw [e2] at h
    exact h
end Go.Proofs.Ytgjdegahofoalaa.Share
