/- wide.Divide by a number of 1 limbs, as it computes it. -/
import Derived.Test.YtgjdegahofoalaaUp
import Derived.Test.YtgjdegahofoalaaStep1
import Derived.Test.YtgjdegahofoalaaStep2
import Derived.Test.YtgjdegahofoalaaStep3
import Derived.Test.YtgjdegahofoalaaStep4
set_option linter.unusedVariables false
set_option linter.unusedSimpArgs false
namespace Go.Proofs.Ytgjdegahofoalaa.Wide
open Go.RowKit

set_option maxHeartbeats 20000000 in
set_option maxRecDepth 100000 in
theorem divide_walk_1 (s t : Nat) (n d X V W0 Q0 R0 W1 Q1 R1 W2 Q2 R2 W3 Q3 R3 W4 Q4 R4 W5 Q5 R5 W6 Q6 R6 W7 Q7 R7 P0 : Int) (w : World) (hn8 : Hid ((hi (hi (hi (hi (hi (hi (hi (hi n)))))))) = 0))
    (hz1 : (L1 d == 0) = true)
    (hz2 : (L2 d == 0) = true)
    (hz3 : (L3 d == 0) = true)
    (hnz : (L0 d == 0) = false)
    (LEN : Hid (∀ w, Calls Try.prog 38 #[.int .u64 (L0 d)] w fun e w' => e = .returned (.int .i64 (t : Int)) ∧ w = w'))
    (h1 : 64 - (s : Int) = (t : Int)) (h2 : 64 - (t : Int) = (s : Int)) (hs : (s : Int) ≤ 63) (ht : (t : Int) ≤ 64) (hX : n * 2 ^ s = X) (hV : d * 2 ^ s = V) (hVk : Hid ((hi d) = 0))
    (vb : Hid (V < 18446744073709551616 ∧ 18446744073709551616 ≤ 2 * V))
    (w7_0 : L7 X = L0 W7)
    (w7_1 : L8 X = L1 W7)
    (b7 : Hid (0 ≤ W7 ∧ W7 < V * 18446744073709551616)) (q7 : W7 / V = Q7) (r7 : W7 % V = R7) (z7 : L1 R7 = 0)
    (w6_0 : L6 X = L0 W6)
    (w6_1 : L0 R7 = L1 W6)
    (b6 : Hid (0 ≤ W6 ∧ W6 < V * 18446744073709551616)) (q6 : W6 / V = Q6) (r6 : W6 % V = R6) (z6 : L1 R6 = 0)
    (w5_0 : L5 X = L0 W5)
    (w5_1 : L0 R6 = L1 W5)
    (b5 : Hid (0 ≤ W5 ∧ W5 < V * 18446744073709551616)) (q5 : W5 / V = Q5) (r5 : W5 % V = R5) (z5 : L1 R5 = 0)
    (w4_0 : L4 X = L0 W4)
    (w4_1 : L0 R5 = L1 W4)
    (b4 : Hid (0 ≤ W4 ∧ W4 < V * 18446744073709551616)) (q4 : W4 / V = Q4) (r4 : W4 % V = R4) (z4 : L1 R4 = 0)
    (w3_0 : L3 X = L0 W3)
    (w3_1 : L0 R4 = L1 W3)
    (b3 : Hid (0 ≤ W3 ∧ W3 < V * 18446744073709551616)) (q3 : W3 / V = Q3) (r3 : W3 % V = R3) (z3 : L1 R3 = 0)
    (w2_0 : L2 X = L0 W2)
    (w2_1 : L0 R3 = L1 W2)
    (b2 : Hid (0 ≤ W2 ∧ W2 < V * 18446744073709551616)) (q2 : W2 / V = Q2) (r2 : W2 % V = R2) (z2 : L1 R2 = 0)
    (w1_0 : L1 X = L0 W1)
    (w1_1 : L0 R2 = L1 W1)
    (b1 : Hid (0 ≤ W1 ∧ W1 < V * 18446744073709551616)) (q1 : W1 / V = Q1) (r1 : W1 % V = R1) (z1 : L1 R1 = 0)
    (w0_0 : L0 X = L0 W0)
    (w0_1 : L0 R1 = L1 W0)
    (b0 : Hid (0 ≤ W0 ∧ W0 < V * 18446744073709551616)) (q0 : W0 / V = Q0) (r0 : W0 % V = R0) (z0 : L1 R0 = 0)
    (p0 : Go.bits .or .u64 (L0 R0 / 2 ^ s) (0) = P0) :
    Calls Try.prog 33 #[.agg #[.int .u64 (L0 n), .int .u64 (L1 n), .int .u64 (L2 n), .int .u64 (L3 n), .int .u64 (L4 n), .int .u64 (L5 n), .int .u64 (L6 n), .int .u64 (L7 n)], .agg #[.int .u64 (L0 d), .int .u64 (L1 d), .int .u64 (L2 d), .int .u64 (L3 d)]] w fun e w' => e = .returned (.tuple #[.agg #[.int .u64 Q0, .int .u64 Q1, .int .u64 Q2, .int .u64 Q3, .int .u64 Q4, .int .u64 Q5, .int .u64 Q6, .int .u64 Q7], .agg #[.int .u64 P0, .int .u64 0, .int .u64 0, .int .u64 0], .int .i64 0]) ∧ Below w.heap.size w w' := by
  have wl0 : IntKind.i64.wrap 0 = 0 := by rfl
  have wl1 : IntKind.i64.wrap 1 = 1 := by rfl
  have wl2 : IntKind.i64.wrap 2 = 2 := by rfl
  have wl3 : IntKind.i64.wrap 3 = 3 := by rfl
  have wl4 : IntKind.i64.wrap 4 = 4 := by rfl
  have wl5 : IntKind.i64.wrap 5 = 5 := by rfl
  have wl6 : IntKind.i64.wrap 6 = 6 := by rfl
  have wl7 : IntKind.i64.wrap 7 = 7 := by rfl
  have wl8 : IntKind.i64.wrap 8 = 8 := by rfl
  have wl9 : IntKind.i64.wrap 9 = 9 := by rfl
  have wt : IntKind.i64.wrap (t : Int) = (t : Int) := wrap_i64_nat (by omega)
  have ws : IntKind.i64.wrap (s : Int) = (s : Int) := wrap_i64_nat (by omega)
  go_enter Try.func33, Try.ntmps33
  go_wp2_with fail
  refine wp_loop_rounds 4 ?_
  rw [rounds_succ]
  go_wp2_with fail
  rw [rounds_succ]
  go_wp2_with fail
  rw [rounds_succ]
  go_wp2_with fail
  rw [rounds_succ]
  go_wp2_with fail
  refine (LEN.out _).mono ?_
  rintro e w' ⟨rfl, rfl⟩
  go_wp2_with fail
  go_region_held3 (fun _ => True) (trivial) (first | (go_at_call 39; refine (up_calls_9_8 (w.heap.size + 1 + 1 + 1 + 1) (w.heap.size) s t (n := n) 0 0 0 0 0 0 0 0 0 77 _ (by go_simp) (by omega) h1 hs hn8.out (by go_simp) (by go_simp) (by go_simp) (by go_simp) (by go_simp) (by go_simp) (by go_simp) (by go_simp)).mono ?_; rintro e w' ⟨rfl, m, rfl⟩))
  go_wp2_with fail
  go_region_held3 (fun _ => True) (trivial) (first | (go_at_call 39; refine (up_calls_1_1 (w.heap.size + 1 + 1 + 1 + 1 + 1) (w.heap.size + 1) s t (n := d) 0 0 0 0 23 _ (by go_simp) (by omega) h1 hs hVk.out (by go_simp)).mono ?_; rintro e w' ⟨rfl, m, rfl⟩))
  go_wp2_with fail
  refine wp_loop_rounds 9 ?_
  rw [rounds_succ]
  go_wp2_with fail
  go_region_held3 (fun _ => True) (trivial) (first | (go_at_call 40; refine (step_calls_1 (w.heap.size + 1 + 1 + 1 + 1) 7 (w.heap.size + 1 + 1 + 1 + 1 + 1) 2 4 (U := W7) (V := V) _ (by omega) b7.out.1 b7.out.2 vb.out.1 vb.out.2 (by go_simp) (by go_simp) (by go_simp) (by go_simp) (by go_simp)).mono ?_; rintro e w' ⟨rfl, m, rfl⟩))
  go_wp2_with fail
  rw [rounds_succ]
  go_wp2_with fail
  go_region_held3 (fun _ => True) (trivial) (first | (go_at_call 40; refine (step_calls_1 (w.heap.size + 1 + 1 + 1 + 1) 6 (w.heap.size + 1 + 1 + 1 + 1 + 1) 3 4 (U := W6) (V := V) _ (by omega) b6.out.1 b6.out.2 vb.out.1 vb.out.2 (by go_simp) (by go_simp) (by go_simp) (by go_simp) (by go_simp)).mono ?_; rintro e w' ⟨rfl, m, rfl⟩))
  go_wp2_with fail
  rw [rounds_succ]
  go_wp2_with fail
  go_region_held3 (fun _ => True) (trivial) (first | (go_at_call 40; refine (step_calls_1 (w.heap.size + 1 + 1 + 1 + 1) 5 (w.heap.size + 1 + 1 + 1 + 1 + 1) 4 4 (U := W5) (V := V) _ (by omega) b5.out.1 b5.out.2 vb.out.1 vb.out.2 (by go_simp) (by go_simp) (by go_simp) (by go_simp) (by go_simp)).mono ?_; rintro e w' ⟨rfl, m, rfl⟩))
  go_wp2_with fail
  rw [rounds_succ]
  go_wp2_with fail
  go_region_held3 (fun _ => True) (trivial) (first | (go_at_call 40; refine (step_calls_1 (w.heap.size + 1 + 1 + 1 + 1) 4 (w.heap.size + 1 + 1 + 1 + 1 + 1) 5 4 (U := W4) (V := V) _ (by omega) b4.out.1 b4.out.2 vb.out.1 vb.out.2 (by go_simp) (by go_simp) (by go_simp) (by go_simp) (by go_simp)).mono ?_; rintro e w' ⟨rfl, m, rfl⟩))
  go_wp2_with fail
  rw [rounds_succ]
  go_wp2_with fail
  go_region_held3 (fun _ => True) (trivial) (first | (go_at_call 40; refine (step_calls_1 (w.heap.size + 1 + 1 + 1 + 1) 3 (w.heap.size + 1 + 1 + 1 + 1 + 1) 6 4 (U := W3) (V := V) _ (by omega) b3.out.1 b3.out.2 vb.out.1 vb.out.2 (by go_simp) (by go_simp) (by go_simp) (by go_simp) (by go_simp)).mono ?_; rintro e w' ⟨rfl, m, rfl⟩))
  go_wp2_with fail
  rw [rounds_succ]
  go_wp2_with fail
  go_region_held3 (fun _ => True) (trivial) (first | (go_at_call 40; refine (step_calls_1 (w.heap.size + 1 + 1 + 1 + 1) 2 (w.heap.size + 1 + 1 + 1 + 1 + 1) 7 4 (U := W2) (V := V) _ (by omega) b2.out.1 b2.out.2 vb.out.1 vb.out.2 (by go_simp) (by go_simp) (by go_simp) (by go_simp) (by go_simp)).mono ?_; rintro e w' ⟨rfl, m, rfl⟩))
  go_wp2_with fail
  rw [rounds_succ]
  go_wp2_with fail
  go_region_held3 (fun _ => True) (trivial) (first | (go_at_call 40; refine (step_calls_1 (w.heap.size + 1 + 1 + 1 + 1) 1 (w.heap.size + 1 + 1 + 1 + 1 + 1) 8 4 (U := W1) (V := V) _ (by omega) b1.out.1 b1.out.2 vb.out.1 vb.out.2 (by go_simp) (by go_simp) (by go_simp) (by go_simp) (by go_simp)).mono ?_; rintro e w' ⟨rfl, m, rfl⟩))
  go_wp2_with fail
  rw [rounds_succ]
  go_wp2_with fail
  go_region_held3 (fun _ => True) (trivial) (first | (go_at_call 40; refine (step_calls_1 (w.heap.size + 1 + 1 + 1 + 1) 0 (w.heap.size + 1 + 1 + 1 + 1 + 1) 9 4 (U := W0) (V := V) _ (by omega) b0.out.1 b0.out.2 vb.out.1 vb.out.2 (by go_simp) (by go_simp) (by go_simp) (by go_simp) (by go_simp)).mono ?_; rintro e w' ⟨rfl, m, rfl⟩))
  go_wp2_with fail
  rw [rounds_succ]
  go_wp2_with fail
  refine wp_loop_rounds 2 ?_
  rw [rounds_succ]
  go_wp2_with fail
  go_region_held3 (fun w' => w'.cell? ⟨w.heap.size + 1 + 1 + 1 + 1, 0, none⟩ = some (.int .u64 (L0 R0)) ∧ w'.cell? ⟨w.heap.size + 1 + 1 + 1 + 1, 1, none⟩ = some (.int .u64 0)) ((refine ⟨?_, ?_⟩; all_goals go_simp)) (fail)
  go_wp2_with fail
  rw [rounds_succ]
  go_wp2_with fail
  go_region
  go_wp2_with fail
  refine bodyPost_ret (v := .tuple #[.agg #[.int .u64 Q0, .int .u64 Q1, .int .u64 Q2, .int .u64 Q3, .int .u64 Q4, .int .u64 Q5, .int .u64 Q6, .int .u64 Q7], .agg #[.int .u64 P0, .int .u64 0, .int .u64 0, .int .u64 0], .int .i64 0]) (by simp [results, Try.results33, go_sem]) rfl ⟨rfl, ?_⟩
  repeat (first | exact Below.refl _ _ | assumption | apply bdrewN | apply below_drew1 | apply below_al | (refine below_set (by simp <;> omega) ?_))
end Go.Proofs.Ytgjdegahofoalaa.Wide

/- wide.Divide by a number of 1 limbs: quotient and remainder. -/
namespace Go.Proofs.Ytgjdegahofoalaa.Wide
open Go.RowKit

theorem divide_calls_1 {n d : Int} (hn0 : 0 ≤ n) (hn8 : (hi (hi (hi (hi (hi (hi (hi (hi n)))))))) = 0) (hd0 : 0 ≤ d) (hdk : d < 18446744073709551616) (hy : ¬ L0 d = 0) (w : World) :
    Calls Try.prog 33 #[.agg #[.int .u64 (L0 n), .int .u64 (L1 n), .int .u64 (L2 n), .int .u64 (L3 n), .int .u64 (L4 n), .int .u64 (L5 n), .int .u64 (L6 n), .int .u64 (L7 n)], .agg #[.int .u64 (L0 d), .int .u64 (L1 d), .int .u64 (L2 d), .int .u64 (L3 d)]] w fun e w' => e = .returned (.tuple #[.agg #[.int .u64 (L0 (n / d)), .int .u64 (L1 (n / d)), .int .u64 (L2 (n / d)), .int .u64 (L3 (n / d)), .int .u64 (L4 (n / d)), .int .u64 (L5 (n / d)), .int .u64 (L6 (n / d)), .int .u64 (L7 (n / d))], .agg #[.int .u64 (L0 (n % d)), .int .u64 (L1 (n % d)), .int .u64 (L2 (n % d)), .int .u64 (L3 (n % d))], .int .i64 0]) ∧ Below w.heap.size w w' := by
  obtain ⟨m, hm⟩ := Int.eq_ofNat_of_zero_le (L0_u d).1
  have hmu : m < 2 ^ 64 := by
    have h64 : (2 : Nat) ^ 64 = 18446744073709551616 := rfl
    have := (L0_u d).2
    rw [h64]; omega
  have hm0 : m ≠ 0 := by rintro rfl; exact hy hm
  obtain ⟨l1, l2, l3⟩ := Limb.lenN_bd hm0
  have l4 := Limb.lenN_le hmu
  obtain ⟨t, ht⟩ : ∃ t, t = Limb.lenN m := ⟨_, rfl⟩
  rw [← ht] at l1 l2 l3 l4
  obtain ⟨s, hs⟩ : ∃ s, s = 64 - t := ⟨_, rfl⟩
  have hP : (0 : Int) < 2 ^ s := Int.pow_pos (by decide)
  have hR : (0 : Int) < 2 ^ t := Int.pow_pos (by decide)
  have hPR : (2 : Int) ^ s * 2 ^ t = 18446744073709551616 := by
    rw [← Int.pow_add, show s + t = 64 by omega]
    rfl
  have LEN : ∀ w, Calls Try.prog 38 #[.int .u64 (L0 d)] w fun e w' => e = .returned (.int .i64 (t : Int)) ∧ w = w' := by
    intro w
    rw [hm, ht]
    exact Limb.len_calls m hmu w
  -- the divisor's highest limb, moved up
  have y1 : (L0 d + 1) * 2 ^ s ≤ 18446744073709551616 := by
    have h1 : L0 d + 1 ≤ 2 ^ t := by rw [hm]; exact_mod_cast l2
    have h2 := Int.mul_le_mul_of_nonneg_right h1 (Int.le_of_lt hP)
    rw [Int.mul_comm (2 ^ t), hPR] at h2
    exact h2
  have y2 : 18446744073709551616 ≤ 2 * (L0 d * 2 ^ s) := by
    have h1 : (2 : Int) ^ t ≤ 2 * L0 d := by
      rw [hm]
      have h3 : 2 ^ t = 2 * 2 ^ (t - 1) := by rw [← Nat.pow_succ', show (t - 1).succ = t by omega]
      have h4 : 2 ^ t ≤ 2 * m := by omega
      exact_mod_cast h4
    have h2 := Int.mul_le_mul_of_nonneg_right h1 (Int.le_of_lt hP)
    rw [Int.mul_comm (2 ^ t), hPR, Int.mul_assoc] at h2
    exact h2
  have hPs : (2 : Int) ^ s ≤ 9223372036854775808 := by
    have h1 : (2 : Nat) ^ 1 ≤ 2 ^ t := Nat.pow_le_pow_right (by decide) l3
    have h2 : (2 : Int) ≤ 2 ^ t := by exact_mod_cast h1
    have h3 : (2 : Int) ^ s * 2 ≤ 2 ^ s * 2 ^ t := Int.mul_le_mul_of_nonneg_left h2 (Int.le_of_lt hP)
    rw [hPR] at h3
    omega
  obtain ⟨P, eP⟩ : ∃ P, P = (2 : Int) ^ s := ⟨_, rfl⟩
  obtain ⟨R, eR⟩ : ∃ R, R = (2 : Int) ^ t := ⟨_, rfl⟩
  rw [← eP] at hP hPR y1 y2 hPs
  rw [← eR] at hR hPR
  have dsp : L0 d * 1 ≤ d ∧ d < (L0 d + 1) * 1 := by unfold L0 lo; (try unfold hi); omega
  obtain ⟨V, eV⟩ : ∃ V, V = d * P := ⟨_, rfl⟩
  have hV1 : V < 18446744073709551616 := by
    have h1 : (d + 1) * P ≤ ((L0 d + 1) * 1) * P := Int.mul_le_mul_of_nonneg_right (by omega) (by omega)
    have h2 : ((L0 d + 1) * 1) * P = ((L0 d + 1) * P) * 1 := Int.mul_right_comm _ _ _
    rw [h2, Int.add_mul d, Int.one_mul] at h1
    have h3 : ((L0 d + 1) * P) * 1 ≤ 18446744073709551616 * 1 := Int.mul_le_mul_of_nonneg_right y1 (by decide)
    omega
  have hV2 : 18446744073709551616 ≤ 2 * V := by
    have h1 : (L0 d * 1) * P ≤ d * P := Int.mul_le_mul_of_nonneg_right dsp.1 (by omega)
    have h2 : (L0 d * 1) * P = (L0 d * P) * 1 := Int.mul_right_comm _ _ _
    rw [h2] at h1
    have h3 : 18446744073709551616 * 1 ≤ (2 * (L0 d * P)) * 1 := Int.mul_le_mul_of_nonneg_right y2 (by decide)
    rw [Int.mul_assoc 2] at h3
    omega
  have hV0 : 0 < V := by omega
  have hdp : 0 < d := by
    by_cases hd : 0 < d
    · exact hd
    · have : d = 0 := by omega
      rw [this, Int.zero_mul] at eV
      omega
  obtain ⟨X, eX⟩ : ∃ X, X = n * P := ⟨_, rfl⟩
  have hX0 : 0 ≤ X := by rw [eX]; exact Int.mul_nonneg hn0 (by omega)
  have hXu : X < 13407807929942597099574024998205846127479365820592393377723561443721764030073546976801874298166903427690031858186486050853753882811946569946433649006084096 * P := by
    rw [eX]
    exact Int.mul_lt_mul_of_pos_right (by unfold hi at hn8; omega) hP
  have x1 : 0 ≤ (hi X) ∧ (hi X) < 726838724295606890549323807888004534353641360687318060281490199180639288113397923326191050713763565560762521606266177933534601628614656 * P := by unfold hi; omega
  have x2 : 0 ≤ (hi (hi X)) ∧ (hi (hi X)) < 39402006196394479212279040100143613805079739270465446667948293404245721771497210611414266254884915640806627990306816 * P := by have := x1; show 0 ≤ (hi X) / 18446744073709551616 ∧ (hi X) / 18446744073709551616 < _; omega
  have x3 : 0 ≤ (hi (hi (hi X))) ∧ (hi (hi (hi X))) < 2135987035920910082395021706169552114602704522356652769947041607822219725780640550022962086936576 * P := by have := x2; show 0 ≤ (hi (hi X)) / 18446744073709551616 ∧ (hi (hi X)) / 18446744073709551616 < _; omega
  have x4 : 0 ≤ (hi (hi (hi (hi X)))) ∧ (hi (hi (hi (hi X)))) < 115792089237316195423570985008687907853269984665640564039457584007913129639936 * P := by have := x3; show 0 ≤ (hi (hi (hi X))) / 18446744073709551616 ∧ (hi (hi (hi X))) / 18446744073709551616 < _; omega
  have x5 : 0 ≤ (hi (hi (hi (hi (hi X))))) ∧ (hi (hi (hi (hi (hi X))))) < 6277101735386680763835789423207666416102355444464034512896 * P := by have := x4; show 0 ≤ (hi (hi (hi (hi X)))) / 18446744073709551616 ∧ (hi (hi (hi (hi X)))) / 18446744073709551616 < _; omega
  have x6 : 0 ≤ (hi (hi (hi (hi (hi (hi X)))))) ∧ (hi (hi (hi (hi (hi (hi X)))))) < 340282366920938463463374607431768211456 * P := by have := x5; show 0 ≤ (hi (hi (hi (hi (hi X))))) / 18446744073709551616 ∧ (hi (hi (hi (hi (hi X))))) / 18446744073709551616 < _; omega
  have x7 : 0 ≤ (hi (hi (hi (hi (hi (hi (hi X))))))) ∧ (hi (hi (hi (hi (hi (hi (hi X))))))) < 18446744073709551616 * P := by have := x6; show 0 ≤ (hi (hi (hi (hi (hi (hi X)))))) / 18446744073709551616 ∧ (hi (hi (hi (hi (hi (hi X)))))) / 18446744073709551616 < _; omega
  obtain ⟨W7, eW7⟩ : ∃ W, W = (hi (hi (hi (hi (hi (hi (hi X))))))) := ⟨_, rfl⟩
  obtain ⟨Q7, eQ7⟩ : ∃ Q, Q = W7 / V := ⟨_, rfl⟩
  obtain ⟨R7, eR7⟩ : ∃ R, R = W7 % V := ⟨_, rfl⟩
  have b7 : 0 ≤ W7 ∧ W7 < V * 18446744073709551616 := by rw [eW7]; omega
  have ra7 : 0 ≤ R7 := by rw [eR7]; exact Int.emod_nonneg _ (by omega)
  have rb7 : R7 < V := by rw [eR7]; exact Int.emod_lt_of_pos _ hV0
  have qs7 : V * Q7 + R7 = W7 := by rw [eQ7, eR7]; exact Int.mul_ediv_add_emod _ _
  have qu7 : U64 Q7 := ⟨by rw [eQ7]; exact Int.ediv_nonneg b7.1 (by omega), by rw [eQ7, Int.ediv_lt_iff_lt_mul hV0, Int.mul_comm]; exact b7.2⟩
  have z7 : (hi R7) = 0 := by unfold hi; omega
  obtain ⟨T7, eT7⟩ : ∃ T, T = Q7 := ⟨_, rfl⟩
  have S7 : (hi (hi (hi (hi (hi (hi (hi X))))))) = T7 * V + R7 := by rw [← eW7, eT7, Int.mul_comm]; exact qs7.symm
  obtain ⟨W6, eW6⟩ : ∃ W, W = L6 X + 18446744073709551616 * R7 := ⟨_, rfl⟩
  obtain ⟨Q6, eQ6⟩ : ∃ Q, Q = W6 / V := ⟨_, rfl⟩
  obtain ⟨R6, eR6⟩ : ∃ R, R = W6 % V := ⟨_, rfl⟩
  have b6 : 0 ≤ W6 ∧ W6 < V * 18446744073709551616 := by have h1 := L6_u X; unfold U64 at h1; rw [eW6]; omega
  have ra6 : 0 ≤ R6 := by rw [eR6]; exact Int.emod_nonneg _ (by omega)
  have rb6 : R6 < V := by rw [eR6]; exact Int.emod_lt_of_pos _ hV0
  have qs6 : V * Q6 + R6 = W6 := by rw [eQ6, eR6]; exact Int.mul_ediv_add_emod _ _
  have qu6 : U64 Q6 := ⟨by rw [eQ6]; exact Int.ediv_nonneg b6.1 (by omega), by rw [eQ6, Int.ediv_lt_iff_lt_mul hV0, Int.mul_comm]; exact b6.2⟩
  have z6 : (hi R6) = 0 := by unfold hi; omega
  obtain ⟨T6, eT6⟩ : ∃ T, T = Q6 + 18446744073709551616 * T7 := ⟨_, rfl⟩
  have S6 : (hi (hi (hi (hi (hi (hi X)))))) = T6 * V + R6 := by rw [eT6]; exact long_step (lo_hi (hi (hi (hi (hi (hi (hi X))))))).symm S7 eW6 qs6
  obtain ⟨W5, eW5⟩ : ∃ W, W = L5 X + 18446744073709551616 * R6 := ⟨_, rfl⟩
  obtain ⟨Q5, eQ5⟩ : ∃ Q, Q = W5 / V := ⟨_, rfl⟩
  obtain ⟨R5, eR5⟩ : ∃ R, R = W5 % V := ⟨_, rfl⟩
  have b5 : 0 ≤ W5 ∧ W5 < V * 18446744073709551616 := by have h1 := L5_u X; unfold U64 at h1; rw [eW5]; omega
  have ra5 : 0 ≤ R5 := by rw [eR5]; exact Int.emod_nonneg _ (by omega)
  have rb5 : R5 < V := by rw [eR5]; exact Int.emod_lt_of_pos _ hV0
  have qs5 : V * Q5 + R5 = W5 := by rw [eQ5, eR5]; exact Int.mul_ediv_add_emod _ _
  have qu5 : U64 Q5 := ⟨by rw [eQ5]; exact Int.ediv_nonneg b5.1 (by omega), by rw [eQ5, Int.ediv_lt_iff_lt_mul hV0, Int.mul_comm]; exact b5.2⟩
  have z5 : (hi R5) = 0 := by unfold hi; omega
  obtain ⟨T5, eT5⟩ : ∃ T, T = Q5 + 18446744073709551616 * T6 := ⟨_, rfl⟩
  have S5 : (hi (hi (hi (hi (hi X))))) = T5 * V + R5 := by rw [eT5]; exact long_step (lo_hi (hi (hi (hi (hi (hi X)))))).symm S6 eW5 qs5
  obtain ⟨W4, eW4⟩ : ∃ W, W = L4 X + 18446744073709551616 * R5 := ⟨_, rfl⟩
  obtain ⟨Q4, eQ4⟩ : ∃ Q, Q = W4 / V := ⟨_, rfl⟩
  obtain ⟨R4, eR4⟩ : ∃ R, R = W4 % V := ⟨_, rfl⟩
  have b4 : 0 ≤ W4 ∧ W4 < V * 18446744073709551616 := by have h1 := L4_u X; unfold U64 at h1; rw [eW4]; omega
  have ra4 : 0 ≤ R4 := by rw [eR4]; exact Int.emod_nonneg _ (by omega)
  have rb4 : R4 < V := by rw [eR4]; exact Int.emod_lt_of_pos _ hV0
  have qs4 : V * Q4 + R4 = W4 := by rw [eQ4, eR4]; exact Int.mul_ediv_add_emod _ _
  have qu4 : U64 Q4 := ⟨by rw [eQ4]; exact Int.ediv_nonneg b4.1 (by omega), by rw [eQ4, Int.ediv_lt_iff_lt_mul hV0, Int.mul_comm]; exact b4.2⟩
  have z4 : (hi R4) = 0 := by unfold hi; omega
  obtain ⟨T4, eT4⟩ : ∃ T, T = Q4 + 18446744073709551616 * T5 := ⟨_, rfl⟩
  have S4 : (hi (hi (hi (hi X)))) = T4 * V + R4 := by rw [eT4]; exact long_step (lo_hi (hi (hi (hi (hi X))))).symm S5 eW4 qs4
  obtain ⟨W3, eW3⟩ : ∃ W, W = L3 X + 18446744073709551616 * R4 := ⟨_, rfl⟩
  obtain ⟨Q3, eQ3⟩ : ∃ Q, Q = W3 / V := ⟨_, rfl⟩
  obtain ⟨R3, eR3⟩ : ∃ R, R = W3 % V := ⟨_, rfl⟩
  have b3 : 0 ≤ W3 ∧ W3 < V * 18446744073709551616 := by have h1 := L3_u X; unfold U64 at h1; rw [eW3]; omega
  have ra3 : 0 ≤ R3 := by rw [eR3]; exact Int.emod_nonneg _ (by omega)
  have rb3 : R3 < V := by rw [eR3]; exact Int.emod_lt_of_pos _ hV0
  have qs3 : V * Q3 + R3 = W3 := by rw [eQ3, eR3]; exact Int.mul_ediv_add_emod _ _
  have qu3 : U64 Q3 := ⟨by rw [eQ3]; exact Int.ediv_nonneg b3.1 (by omega), by rw [eQ3, Int.ediv_lt_iff_lt_mul hV0, Int.mul_comm]; exact b3.2⟩
  have z3 : (hi R3) = 0 := by unfold hi; omega
  obtain ⟨T3, eT3⟩ : ∃ T, T = Q3 + 18446744073709551616 * T4 := ⟨_, rfl⟩
  have S3 : (hi (hi (hi X))) = T3 * V + R3 := by rw [eT3]; exact long_step (lo_hi (hi (hi (hi X)))).symm S4 eW3 qs3
  obtain ⟨W2, eW2⟩ : ∃ W, W = L2 X + 18446744073709551616 * R3 := ⟨_, rfl⟩
  obtain ⟨Q2, eQ2⟩ : ∃ Q, Q = W2 / V := ⟨_, rfl⟩
  obtain ⟨R2, eR2⟩ : ∃ R, R = W2 % V := ⟨_, rfl⟩
  have b2 : 0 ≤ W2 ∧ W2 < V * 18446744073709551616 := by have h1 := L2_u X; unfold U64 at h1; rw [eW2]; omega
  have ra2 : 0 ≤ R2 := by rw [eR2]; exact Int.emod_nonneg _ (by omega)
  have rb2 : R2 < V := by rw [eR2]; exact Int.emod_lt_of_pos _ hV0
  have qs2 : V * Q2 + R2 = W2 := by rw [eQ2, eR2]; exact Int.mul_ediv_add_emod _ _
  have qu2 : U64 Q2 := ⟨by rw [eQ2]; exact Int.ediv_nonneg b2.1 (by omega), by rw [eQ2, Int.ediv_lt_iff_lt_mul hV0, Int.mul_comm]; exact b2.2⟩
  have z2 : (hi R2) = 0 := by unfold hi; omega
  obtain ⟨T2, eT2⟩ : ∃ T, T = Q2 + 18446744073709551616 * T3 := ⟨_, rfl⟩
  have S2 : (hi (hi X)) = T2 * V + R2 := by rw [eT2]; exact long_step (lo_hi (hi (hi X))).symm S3 eW2 qs2
  obtain ⟨W1, eW1⟩ : ∃ W, W = L1 X + 18446744073709551616 * R2 := ⟨_, rfl⟩
  obtain ⟨Q1, eQ1⟩ : ∃ Q, Q = W1 / V := ⟨_, rfl⟩
  obtain ⟨R1, eR1⟩ : ∃ R, R = W1 % V := ⟨_, rfl⟩
  have b1 : 0 ≤ W1 ∧ W1 < V * 18446744073709551616 := by have h1 := L1_u X; unfold U64 at h1; rw [eW1]; omega
  have ra1 : 0 ≤ R1 := by rw [eR1]; exact Int.emod_nonneg _ (by omega)
  have rb1 : R1 < V := by rw [eR1]; exact Int.emod_lt_of_pos _ hV0
  have qs1 : V * Q1 + R1 = W1 := by rw [eQ1, eR1]; exact Int.mul_ediv_add_emod _ _
  have qu1 : U64 Q1 := ⟨by rw [eQ1]; exact Int.ediv_nonneg b1.1 (by omega), by rw [eQ1, Int.ediv_lt_iff_lt_mul hV0, Int.mul_comm]; exact b1.2⟩
  have z1 : (hi R1) = 0 := by unfold hi; omega
  obtain ⟨T1, eT1⟩ : ∃ T, T = Q1 + 18446744073709551616 * T2 := ⟨_, rfl⟩
  have S1 : (hi X) = T1 * V + R1 := by rw [eT1]; exact long_step (lo_hi (hi X)).symm S2 eW1 qs1
  obtain ⟨W0, eW0⟩ : ∃ W, W = L0 X + 18446744073709551616 * R1 := ⟨_, rfl⟩
  obtain ⟨Q0, eQ0⟩ : ∃ Q, Q = W0 / V := ⟨_, rfl⟩
  obtain ⟨R0, eR0⟩ : ∃ R, R = W0 % V := ⟨_, rfl⟩
  have b0 : 0 ≤ W0 ∧ W0 < V * 18446744073709551616 := by have h1 := L0_u X; unfold U64 at h1; rw [eW0]; omega
  have ra0 : 0 ≤ R0 := by rw [eR0]; exact Int.emod_nonneg _ (by omega)
  have rb0 : R0 < V := by rw [eR0]; exact Int.emod_lt_of_pos _ hV0
  have qs0 : V * Q0 + R0 = W0 := by rw [eQ0, eR0]; exact Int.mul_ediv_add_emod _ _
  have qu0 : U64 Q0 := ⟨by rw [eQ0]; exact Int.ediv_nonneg b0.1 (by omega), by rw [eQ0, Int.ediv_lt_iff_lt_mul hV0, Int.mul_comm]; exact b0.2⟩
  have z0 : (hi R0) = 0 := by unfold hi; omega
  obtain ⟨T0, eT0⟩ : ∃ T, T = Q0 + 18446744073709551616 * T1 := ⟨_, rfl⟩
  have S0 : X = T0 * V + R0 := by rw [eT0]; exact long_step (lo_hi X).symm S1 eW0 qs0
  obtain ⟨d1, d2⟩ := div_shift' hP hdp (by rw [← eX, ← eV]; exact S0) ra0 (by rw [← eV]; exact rb0)
  obtain ⟨r, er⟩ : ∃ r, r = n % d := ⟨_, rfl⟩
  have r0 : R0 = r * P := by rw [er]; exact d2
  have rn : 0 ≤ r := by rw [er]; exact Int.emod_nonneg _ (by omega)
  have rd : r < d := by rw [er]; exact Int.emod_lt_of_pos _ hdp
  have t0 : n / d = T0 := d1
  have t1 : (hi (n / d)) = T1 := by rw [t0, eT0]; exact (put_low qu0).2
  have t2 : (hi (hi (n / d))) = T2 := by rw [t1, eT1]; exact (put_low qu1).2
  have t3 : (hi (hi (hi (n / d)))) = T3 := by rw [t2, eT2]; exact (put_low qu2).2
  have t4 : (hi (hi (hi (hi (n / d))))) = T4 := by rw [t3, eT3]; exact (put_low qu3).2
  have t5 : (hi (hi (hi (hi (hi (n / d)))))) = T5 := by rw [t4, eT4]; exact (put_low qu4).2
  have t6 : (hi (hi (hi (hi (hi (hi (n / d))))))) = T6 := by rw [t5, eT5]; exact (put_low qu5).2
  have t7 : (hi (hi (hi (hi (hi (hi (hi (n / d)))))))) = T7 := by rw [t6, eT6]; exact (put_low qu6).2
  have f0 : L0 (n / d) = Q0 := by show lo (n / d) = _; rw [t0, eT0]; exact (put_low qu0).1
  have f1 : L1 (n / d) = Q1 := by show lo (hi (n / d)) = _; rw [t1, eT1]; exact (put_low qu1).1
  have f2 : L2 (n / d) = Q2 := by show lo (hi (hi (n / d))) = _; rw [t2, eT2]; exact (put_low qu2).1
  have f3 : L3 (n / d) = Q3 := by show lo (hi (hi (hi (n / d)))) = _; rw [t3, eT3]; exact (put_low qu3).1
  have f4 : L4 (n / d) = Q4 := by show lo (hi (hi (hi (hi (n / d))))) = _; rw [t4, eT4]; exact (put_low qu4).1
  have f5 : L5 (n / d) = Q5 := by show lo (hi (hi (hi (hi (hi (n / d)))))) = _; rw [t5, eT5]; exact (put_low qu5).1
  have f6 : L6 (n / d) = Q6 := by show lo (hi (hi (hi (hi (hi (hi (n / d))))))) = _; rw [t6, eT6]; exact (put_low qu6).1
  have f7 : L7 (n / d) = Q7 := by show lo (hi (hi (hi (hi (hi (hi (hi (n / d)))))))) = _; rw [t7, eT7]; exact lo_id qu7
  have u0 := up_step' r 0 hP hR hPR (by omega) hP
  rw [Int.add_zero, ← r0] at u0
  have v1 : (hi R0) = (hi r) * P + L0 r / R := by exact u0.1
  have rk : (hi r) = 0 := by unfold hi; omega
  have ck : L0 r / R = 0 := by have := v1; rw [z0, rk, Int.zero_mul, Int.zero_add] at this; exact this.symm
  have p0 : Go.bits .or .u64 (L0 R0 / 2 ^ s) 0 = L0 r := by
    rw [← eP, show L0 R0 = lo (r * P + 0) by rw [Int.add_zero, ← r0]; rfl]
    exact down_last r 0 hP hR hPR (by omega) hP ck
  have g1 : L1 r = 0 := by
    show lo (hi r) = 0
    rw [show (hi r) = (hi r) from rfl, rk]
    rfl
  have g2 : L2 r = 0 := by
    show lo (hi (hi r)) = 0
    rw [show (hi (hi r)) = (hi (hi r)) from rfl, rk]
    rfl
  have g3 : L3 r = 0 := by
    show lo (hi (hi (hi r))) = 0
    rw [show (hi (hi (hi r))) = (hi (hi (hi r))) from rfl, rk]
    rfl
  have hh := divide_walk_1 s t n d X V W0 Q0 R0 W1 Q1 R1 W2 Q2 R2 W3 Q3 R3 W4 Q4 R4 W5 Q5 R5 W6 Q6 R6 W7 Q7 R7 (L0 r) w (Lib.hid hn8) (by rw [show L1 d = 0 by unfold L1 lo hi; omega]; rfl) (by rw [show L2 d = 0 by unfold L2 lo hi; omega]; rfl) (by rw [show L3 d = 0 by unfold L3 lo hi; omega]; rfl) (beq_eq_false_iff_ne.2 hy) (Lib.hid LEN) (by omega) (by omega) (by omega) (by omega) (by rw [← eP]; exact eX.symm) (by rw [← eP]; exact eV.symm) (Lib.hid (by unfold hi; omega)) (Lib.hid ⟨hV1, hV2⟩) (by rw [eW7]; rfl) (by rw [eW7]; rfl) (Lib.hid b7) eQ7.symm eR7.symm (by show lo (hi R7) = 0; rw [z7]; rfl) (by rw [eW6]; exact (put_low (L6_u X)).1.symm) (by show _ = lo (hi W6); rw [eW6, show (hi (L6 X + 18446744073709551616 * R7)) = (hi (L6 X + 18446744073709551616 * R7)) from rfl, (put_low (L6_u X)).2]; rfl) (Lib.hid b6) eQ6.symm eR6.symm (by show lo (hi R6) = 0; rw [z6]; rfl) (by rw [eW5]; exact (put_low (L5_u X)).1.symm) (by show _ = lo (hi W5); rw [eW5, show (hi (L5 X + 18446744073709551616 * R6)) = (hi (L5 X + 18446744073709551616 * R6)) from rfl, (put_low (L5_u X)).2]; rfl) (Lib.hid b5) eQ5.symm eR5.symm (by show lo (hi R5) = 0; rw [z5]; rfl) (by rw [eW4]; exact (put_low (L4_u X)).1.symm) (by show _ = lo (hi W4); rw [eW4, show (hi (L4 X + 18446744073709551616 * R5)) = (hi (L4 X + 18446744073709551616 * R5)) from rfl, (put_low (L4_u X)).2]; rfl) (Lib.hid b4) eQ4.symm eR4.symm (by show lo (hi R4) = 0; rw [z4]; rfl) (by rw [eW3]; exact (put_low (L3_u X)).1.symm) (by show _ = lo (hi W3); rw [eW3, show (hi (L3 X + 18446744073709551616 * R4)) = (hi (L3 X + 18446744073709551616 * R4)) from rfl, (put_low (L3_u X)).2]; rfl) (Lib.hid b3) eQ3.symm eR3.symm (by show lo (hi R3) = 0; rw [z3]; rfl) (by rw [eW2]; exact (put_low (L2_u X)).1.symm) (by show _ = lo (hi W2); rw [eW2, show (hi (L2 X + 18446744073709551616 * R3)) = (hi (L2 X + 18446744073709551616 * R3)) from rfl, (put_low (L2_u X)).2]; rfl) (Lib.hid b2) eQ2.symm eR2.symm (by show lo (hi R2) = 0; rw [z2]; rfl) (by rw [eW1]; exact (put_low (L1_u X)).1.symm) (by show _ = lo (hi W1); rw [eW1, show (hi (L1 X + 18446744073709551616 * R2)) = (hi (L1 X + 18446744073709551616 * R2)) from rfl, (put_low (L1_u X)).2]; rfl) (Lib.hid b1) eQ1.symm eR1.symm (by show lo (hi R1) = 0; rw [z1]; rfl) (by rw [eW0]; exact (put_low (L0_u X)).1.symm) (by show _ = lo (hi W0); rw [eW0, show (hi (L0 X + 18446744073709551616 * R1)) = (hi (L0 X + 18446744073709551616 * R1)) from rfl, (put_low (L0_u X)).2]; rfl) (Lib.hid b0) eQ0.symm eR0.symm (by show lo (hi R0) = 0; rw [z0]; rfl) p0
  rw [← er, f0, f1, f2, f3, f4, f5, f6, f7, g1, g2, g3]
  exact hh
end Go.Proofs.Ytgjdegahofoalaa.Wide

/- wide.Divide by a number of 2 limbs, as it computes it. -/
namespace Go.Proofs.Ytgjdegahofoalaa.Wide
open Go.RowKit

set_option maxHeartbeats 20000000 in
set_option maxRecDepth 100000 in
theorem divide_walk_2 (s t : Nat) (n d X V W0 Q0 R0 W1 Q1 R1 W2 Q2 R2 W3 Q3 R3 W4 Q4 R4 W5 Q5 R5 W6 Q6 R6 P0 P1 : Int) (w : World) (hn8 : Hid ((hi (hi (hi (hi (hi (hi (hi (hi n)))))))) = 0))
    (hz2 : (L2 d == 0) = true)
    (hz3 : (L3 d == 0) = true)
    (hnz : (L1 d == 0) = false)
    (LEN : Hid (∀ w, Calls Try.prog 38 #[.int .u64 (L1 d)] w fun e w' => e = .returned (.int .i64 (t : Int)) ∧ w = w'))
    (h1 : 64 - (s : Int) = (t : Int)) (h2 : 64 - (t : Int) = (s : Int)) (hs : (s : Int) ≤ 63) (ht : (t : Int) ≤ 64) (hX : n * 2 ^ s = X) (hV : d * 2 ^ s = V) (hVk : Hid ((hi (hi d)) = 0))
    (vb : Hid (V < 340282366920938463463374607431768211456 ∧ 340282366920938463463374607431768211456 ≤ 2 * V))
    (w6_0 : L6 X = L0 W6)
    (w6_1 : L7 X = L1 W6)
    (w6_2 : L8 X = L2 W6)
    (b6 : Hid (0 ≤ W6 ∧ W6 < V * 18446744073709551616)) (q6 : W6 / V = Q6) (r6 : W6 % V = R6) (z6 : L2 R6 = 0)
    (w5_0 : L5 X = L0 W5)
    (w5_1 : L0 R6 = L1 W5)
    (w5_2 : L1 R6 = L2 W5)
    (b5 : Hid (0 ≤ W5 ∧ W5 < V * 18446744073709551616)) (q5 : W5 / V = Q5) (r5 : W5 % V = R5) (z5 : L2 R5 = 0)
    (w4_0 : L4 X = L0 W4)
    (w4_1 : L0 R5 = L1 W4)
    (w4_2 : L1 R5 = L2 W4)
    (b4 : Hid (0 ≤ W4 ∧ W4 < V * 18446744073709551616)) (q4 : W4 / V = Q4) (r4 : W4 % V = R4) (z4 : L2 R4 = 0)
    (w3_0 : L3 X = L0 W3)
    (w3_1 : L0 R4 = L1 W3)
    (w3_2 : L1 R4 = L2 W3)
    (b3 : Hid (0 ≤ W3 ∧ W3 < V * 18446744073709551616)) (q3 : W3 / V = Q3) (r3 : W3 % V = R3) (z3 : L2 R3 = 0)
    (w2_0 : L2 X = L0 W2)
    (w2_1 : L0 R3 = L1 W2)
    (w2_2 : L1 R3 = L2 W2)
    (b2 : Hid (0 ≤ W2 ∧ W2 < V * 18446744073709551616)) (q2 : W2 / V = Q2) (r2 : W2 % V = R2) (z2 : L2 R2 = 0)
    (w1_0 : L1 X = L0 W1)
    (w1_1 : L0 R2 = L1 W1)
    (w1_2 : L1 R2 = L2 W1)
    (b1 : Hid (0 ≤ W1 ∧ W1 < V * 18446744073709551616)) (q1 : W1 / V = Q1) (r1 : W1 % V = R1) (z1 : L2 R1 = 0)
    (w0_0 : L0 X = L0 W0)
    (w0_1 : L0 R1 = L1 W0)
    (w0_2 : L1 R1 = L2 W0)
    (b0 : Hid (0 ≤ W0 ∧ W0 < V * 18446744073709551616)) (q0 : W0 / V = Q0) (r0 : W0 % V = R0) (z0 : L2 R0 = 0)
    (p0 : Go.bits .or .u64 (L0 R0 / 2 ^ s) (IntKind.u64.wrap (L1 R0 * 2 ^ t)) = P0)
    (p1 : Go.bits .or .u64 (L1 R0 / 2 ^ s) (0) = P1) :
    Calls Try.prog 33 #[.agg #[.int .u64 (L0 n), .int .u64 (L1 n), .int .u64 (L2 n), .int .u64 (L3 n), .int .u64 (L4 n), .int .u64 (L5 n), .int .u64 (L6 n), .int .u64 (L7 n)], .agg #[.int .u64 (L0 d), .int .u64 (L1 d), .int .u64 (L2 d), .int .u64 (L3 d)]] w fun e w' => e = .returned (.tuple #[.agg #[.int .u64 Q0, .int .u64 Q1, .int .u64 Q2, .int .u64 Q3, .int .u64 Q4, .int .u64 Q5, .int .u64 Q6, .int .u64 0], .agg #[.int .u64 P0, .int .u64 P1, .int .u64 0, .int .u64 0], .int .i64 0]) ∧ Below w.heap.size w w' := by
  have wl0 : IntKind.i64.wrap 0 = 0 := by rfl
  have wl1 : IntKind.i64.wrap 1 = 1 := by rfl
  have wl2 : IntKind.i64.wrap 2 = 2 := by rfl
  have wl3 : IntKind.i64.wrap 3 = 3 := by rfl
  have wl4 : IntKind.i64.wrap 4 = 4 := by rfl
  have wl5 : IntKind.i64.wrap 5 = 5 := by rfl
  have wl6 : IntKind.i64.wrap 6 = 6 := by rfl
  have wl7 : IntKind.i64.wrap 7 = 7 := by rfl
  have wl8 : IntKind.i64.wrap 8 = 8 := by rfl
  have wl9 : IntKind.i64.wrap 9 = 9 := by rfl
  have wt : IntKind.i64.wrap (t : Int) = (t : Int) := wrap_i64_nat (by omega)
  have ws : IntKind.i64.wrap (s : Int) = (s : Int) := wrap_i64_nat (by omega)
  go_enter Try.func33, Try.ntmps33
  go_wp2_with fail
  refine wp_loop_rounds 3 ?_
  rw [rounds_succ]
  go_wp2_with fail
  rw [rounds_succ]
  go_wp2_with fail
  rw [rounds_succ]
  go_wp2_with fail
  refine (LEN.out _).mono ?_
  rintro e w' ⟨rfl, rfl⟩
  go_wp2_with fail
  go_region_held3 (fun _ => True) (trivial) (first | (go_at_call 39; refine (up_calls_9_8 (w.heap.size + 1 + 1 + 1 + 1) (w.heap.size) s t (n := n) 0 0 0 0 0 0 0 0 0 77 _ (by go_simp) (by omega) h1 hs hn8.out (by go_simp) (by go_simp) (by go_simp) (by go_simp) (by go_simp) (by go_simp) (by go_simp) (by go_simp)).mono ?_; rintro e w' ⟨rfl, m, rfl⟩))
  go_wp2_with fail
  go_region_held3 (fun _ => True) (trivial) (first | (go_at_call 39; refine (up_calls_2_2 (w.heap.size + 1 + 1 + 1 + 1 + 1) (w.heap.size + 1) s t (n := d) 0 0 0 0 23 _ (by go_simp) (by omega) h1 hs hVk.out (by go_simp) (by go_simp)).mono ?_; rintro e w' ⟨rfl, m, rfl⟩))
  go_wp2_with fail
  refine wp_loop_rounds 8 ?_
  rw [rounds_succ]
  go_wp2_with fail
  go_region_held3 (fun _ => True) (trivial) (first | (go_at_call 40; refine (step_calls_2 (w.heap.size + 1 + 1 + 1 + 1) 6 (w.heap.size + 1 + 1 + 1 + 1 + 1) 3 4 (U := W6) (V := V) _ (by omega) b6.out.1 b6.out.2 vb.out.1 vb.out.2 (by go_simp) (by go_simp) (by go_simp) (by go_simp) (by go_simp) (by go_simp) (by go_simp) (by go_simp)).mono ?_; rintro e w' ⟨rfl, m, rfl⟩))
  go_wp2_with fail
  rw [rounds_succ]
  go_wp2_with fail
  go_region_held3 (fun _ => True) (trivial) (first | (go_at_call 40; refine (step_calls_2 (w.heap.size + 1 + 1 + 1 + 1) 5 (w.heap.size + 1 + 1 + 1 + 1 + 1) 4 4 (U := W5) (V := V) _ (by omega) b5.out.1 b5.out.2 vb.out.1 vb.out.2 (by go_simp) (by go_simp) (by go_simp) (by go_simp) (by go_simp) (by go_simp) (by go_simp) (by go_simp)).mono ?_; rintro e w' ⟨rfl, m, rfl⟩))
  go_wp2_with fail
  rw [rounds_succ]
  go_wp2_with fail
  go_region_held3 (fun _ => True) (trivial) (first | (go_at_call 40; refine (step_calls_2 (w.heap.size + 1 + 1 + 1 + 1) 4 (w.heap.size + 1 + 1 + 1 + 1 + 1) 5 4 (U := W4) (V := V) _ (by omega) b4.out.1 b4.out.2 vb.out.1 vb.out.2 (by go_simp) (by go_simp) (by go_simp) (by go_simp) (by go_simp) (by go_simp) (by go_simp) (by go_simp)).mono ?_; rintro e w' ⟨rfl, m, rfl⟩))
  go_wp2_with fail
  rw [rounds_succ]
  go_wp2_with fail
  go_region_held3 (fun _ => True) (trivial) (first | (go_at_call 40; refine (step_calls_2 (w.heap.size + 1 + 1 + 1 + 1) 3 (w.heap.size + 1 + 1 + 1 + 1 + 1) 6 4 (U := W3) (V := V) _ (by omega) b3.out.1 b3.out.2 vb.out.1 vb.out.2 (by go_simp) (by go_simp) (by go_simp) (by go_simp) (by go_simp) (by go_simp) (by go_simp) (by go_simp)).mono ?_; rintro e w' ⟨rfl, m, rfl⟩))
  go_wp2_with fail
  rw [rounds_succ]
  go_wp2_with fail
  go_region_held3 (fun _ => True) (trivial) (first | (go_at_call 40; refine (step_calls_2 (w.heap.size + 1 + 1 + 1 + 1) 2 (w.heap.size + 1 + 1 + 1 + 1 + 1) 7 4 (U := W2) (V := V) _ (by omega) b2.out.1 b2.out.2 vb.out.1 vb.out.2 (by go_simp) (by go_simp) (by go_simp) (by go_simp) (by go_simp) (by go_simp) (by go_simp) (by go_simp)).mono ?_; rintro e w' ⟨rfl, m, rfl⟩))
  go_wp2_with fail
  rw [rounds_succ]
  go_wp2_with fail
  go_region_held3 (fun _ => True) (trivial) (first | (go_at_call 40; refine (step_calls_2 (w.heap.size + 1 + 1 + 1 + 1) 1 (w.heap.size + 1 + 1 + 1 + 1 + 1) 8 4 (U := W1) (V := V) _ (by omega) b1.out.1 b1.out.2 vb.out.1 vb.out.2 (by go_simp) (by go_simp) (by go_simp) (by go_simp) (by go_simp) (by go_simp) (by go_simp) (by go_simp)).mono ?_; rintro e w' ⟨rfl, m, rfl⟩))
  go_wp2_with fail
  rw [rounds_succ]
  go_wp2_with fail
  go_region_held3 (fun _ => True) (trivial) (first | (go_at_call 40; refine (step_calls_2 (w.heap.size + 1 + 1 + 1 + 1) 0 (w.heap.size + 1 + 1 + 1 + 1 + 1) 9 4 (U := W0) (V := V) _ (by omega) b0.out.1 b0.out.2 vb.out.1 vb.out.2 (by go_simp) (by go_simp) (by go_simp) (by go_simp) (by go_simp) (by go_simp) (by go_simp) (by go_simp)).mono ?_; rintro e w' ⟨rfl, m, rfl⟩))
  go_wp2_with fail
  rw [rounds_succ]
  go_wp2_with fail
  refine wp_loop_rounds 3 ?_
  rw [rounds_succ]
  go_wp2_with fail
  go_region_held3 (fun w' => w'.cell? ⟨w.heap.size + 1 + 1 + 1 + 1, 0, none⟩ = some (.int .u64 (L0 R0)) ∧ w'.cell? ⟨w.heap.size + 1 + 1 + 1 + 1, 1, none⟩ = some (.int .u64 (L1 R0))) ((refine ⟨?_, ?_⟩; all_goals go_simp)) (fail)
  go_wp2_with fail
  rw [rounds_succ]
  go_wp2_with fail
  go_region_held3 (fun w' => w'.cell? ⟨w.heap.size + 1 + 1 + 1 + 1, 1, none⟩ = some (.int .u64 (L1 R0)) ∧ w'.cell? ⟨w.heap.size + 1 + 1 + 1 + 1, 2, none⟩ = some (.int .u64 0)) ((refine ⟨?_, ?_⟩; all_goals go_simp)) (fail)
  go_wp2_with fail
  rw [rounds_succ]
  go_wp2_with fail
  go_region
  go_wp2_with fail
  refine bodyPost_ret (v := .tuple #[.agg #[.int .u64 Q0, .int .u64 Q1, .int .u64 Q2, .int .u64 Q3, .int .u64 Q4, .int .u64 Q5, .int .u64 Q6, .int .u64 0], .agg #[.int .u64 P0, .int .u64 P1, .int .u64 0, .int .u64 0], .int .i64 0]) (by simp [results, Try.results33, go_sem]) rfl ⟨rfl, ?_⟩
  repeat (first | exact Below.refl _ _ | assumption | apply bdrewN | apply below_drew1 | apply below_al | (refine below_set (by simp <;> omega) ?_))
end Go.Proofs.Ytgjdegahofoalaa.Wide

/- wide.Divide by a number of 2 limbs: quotient and remainder. -/
namespace Go.Proofs.Ytgjdegahofoalaa.Wide
open Go.RowKit

theorem divide_calls_2 {n d : Int} (hn0 : 0 ≤ n) (hn8 : (hi (hi (hi (hi (hi (hi (hi (hi n)))))))) = 0) (hd0 : 0 ≤ d) (hdk : d < 340282366920938463463374607431768211456) (hy : ¬ L1 d = 0) (w : World) :
    Calls Try.prog 33 #[.agg #[.int .u64 (L0 n), .int .u64 (L1 n), .int .u64 (L2 n), .int .u64 (L3 n), .int .u64 (L4 n), .int .u64 (L5 n), .int .u64 (L6 n), .int .u64 (L7 n)], .agg #[.int .u64 (L0 d), .int .u64 (L1 d), .int .u64 (L2 d), .int .u64 (L3 d)]] w fun e w' => e = .returned (.tuple #[.agg #[.int .u64 (L0 (n / d)), .int .u64 (L1 (n / d)), .int .u64 (L2 (n / d)), .int .u64 (L3 (n / d)), .int .u64 (L4 (n / d)), .int .u64 (L5 (n / d)), .int .u64 (L6 (n / d)), .int .u64 (L7 (n / d))], .agg #[.int .u64 (L0 (n % d)), .int .u64 (L1 (n % d)), .int .u64 (L2 (n % d)), .int .u64 (L3 (n % d))], .int .i64 0]) ∧ Below w.heap.size w w' := by
  obtain ⟨m, hm⟩ := Int.eq_ofNat_of_zero_le (L1_u d).1
  have hmu : m < 2 ^ 64 := by
    have h64 : (2 : Nat) ^ 64 = 18446744073709551616 := rfl
    have := (L1_u d).2
    rw [h64]; omega
  have hm0 : m ≠ 0 := by rintro rfl; exact hy hm
  obtain ⟨l1, l2, l3⟩ := Limb.lenN_bd hm0
  have l4 := Limb.lenN_le hmu
  obtain ⟨t, ht⟩ : ∃ t, t = Limb.lenN m := ⟨_, rfl⟩
  rw [← ht] at l1 l2 l3 l4
  obtain ⟨s, hs⟩ : ∃ s, s = 64 - t := ⟨_, rfl⟩
  have hP : (0 : Int) < 2 ^ s := Int.pow_pos (by decide)
  have hR : (0 : Int) < 2 ^ t := Int.pow_pos (by decide)
  have hPR : (2 : Int) ^ s * 2 ^ t = 18446744073709551616 := by
    rw [← Int.pow_add, show s + t = 64 by omega]
    rfl
  have LEN : ∀ w, Calls Try.prog 38 #[.int .u64 (L1 d)] w fun e w' => e = .returned (.int .i64 (t : Int)) ∧ w = w' := by
    intro w
    rw [hm, ht]
    exact Limb.len_calls m hmu w
  -- the divisor's highest limb, moved up
  have y1 : (L1 d + 1) * 2 ^ s ≤ 18446744073709551616 := by
    have h1 : L1 d + 1 ≤ 2 ^ t := by rw [hm]; exact_mod_cast l2
    have h2 := Int.mul_le_mul_of_nonneg_right h1 (Int.le_of_lt hP)
    rw [Int.mul_comm (2 ^ t), hPR] at h2
    exact h2
  have y2 : 18446744073709551616 ≤ 2 * (L1 d * 2 ^ s) := by
    have h1 : (2 : Int) ^ t ≤ 2 * L1 d := by
      rw [hm]
      have h3 : 2 ^ t = 2 * 2 ^ (t - 1) := by rw [← Nat.pow_succ', show (t - 1).succ = t by omega]
      have h4 : 2 ^ t ≤ 2 * m := by omega
      exact_mod_cast h4
    have h2 := Int.mul_le_mul_of_nonneg_right h1 (Int.le_of_lt hP)
    rw [Int.mul_comm (2 ^ t), hPR, Int.mul_assoc] at h2
    exact h2
  have hPs : (2 : Int) ^ s ≤ 9223372036854775808 := by
    have h1 : (2 : Nat) ^ 1 ≤ 2 ^ t := Nat.pow_le_pow_right (by decide) l3
    have h2 : (2 : Int) ≤ 2 ^ t := by exact_mod_cast h1
    have h3 : (2 : Int) ^ s * 2 ≤ 2 ^ s * 2 ^ t := Int.mul_le_mul_of_nonneg_left h2 (Int.le_of_lt hP)
    rw [hPR] at h3
    omega
  obtain ⟨P, eP⟩ : ∃ P, P = (2 : Int) ^ s := ⟨_, rfl⟩
  obtain ⟨R, eR⟩ : ∃ R, R = (2 : Int) ^ t := ⟨_, rfl⟩
  rw [← eP] at hP hPR y1 y2 hPs
  rw [← eR] at hR hPR
  have dsp : L1 d * 18446744073709551616 ≤ d ∧ d < (L1 d + 1) * 18446744073709551616 := by unfold L1 lo; (try unfold hi); omega
  obtain ⟨V, eV⟩ : ∃ V, V = d * P := ⟨_, rfl⟩
  have hV1 : V < 340282366920938463463374607431768211456 := by
    have h1 : (d + 1) * P ≤ ((L1 d + 1) * 18446744073709551616) * P := Int.mul_le_mul_of_nonneg_right (by omega) (by omega)
    have h2 : ((L1 d + 1) * 18446744073709551616) * P = ((L1 d + 1) * P) * 18446744073709551616 := Int.mul_right_comm _ _ _
    rw [h2, Int.add_mul d, Int.one_mul] at h1
    have h3 : ((L1 d + 1) * P) * 18446744073709551616 ≤ 18446744073709551616 * 18446744073709551616 := Int.mul_le_mul_of_nonneg_right y1 (by decide)
    omega
  have hV2 : 340282366920938463463374607431768211456 ≤ 2 * V := by
    have h1 : (L1 d * 18446744073709551616) * P ≤ d * P := Int.mul_le_mul_of_nonneg_right dsp.1 (by omega)
    have h2 : (L1 d * 18446744073709551616) * P = (L1 d * P) * 18446744073709551616 := Int.mul_right_comm _ _ _
    rw [h2] at h1
    have h3 : 18446744073709551616 * 18446744073709551616 ≤ (2 * (L1 d * P)) * 18446744073709551616 := Int.mul_le_mul_of_nonneg_right y2 (by decide)
    rw [Int.mul_assoc 2] at h3
    omega
  have hV0 : 0 < V := by omega
  have hdp : 0 < d := by
    by_cases hd : 0 < d
    · exact hd
    · have : d = 0 := by omega
      rw [this, Int.zero_mul] at eV
      omega
  obtain ⟨X, eX⟩ : ∃ X, X = n * P := ⟨_, rfl⟩
  have hX0 : 0 ≤ X := by rw [eX]; exact Int.mul_nonneg hn0 (by omega)
  have hXu : X < 13407807929942597099574024998205846127479365820592393377723561443721764030073546976801874298166903427690031858186486050853753882811946569946433649006084096 * P := by
    rw [eX]
    exact Int.mul_lt_mul_of_pos_right (by unfold hi at hn8; omega) hP
  have x1 : 0 ≤ (hi X) ∧ (hi X) < 726838724295606890549323807888004534353641360687318060281490199180639288113397923326191050713763565560762521606266177933534601628614656 * P := by unfold hi; omega
  have x2 : 0 ≤ (hi (hi X)) ∧ (hi (hi X)) < 39402006196394479212279040100143613805079739270465446667948293404245721771497210611414266254884915640806627990306816 * P := by have := x1; show 0 ≤ (hi X) / 18446744073709551616 ∧ (hi X) / 18446744073709551616 < _; omega
  have x3 : 0 ≤ (hi (hi (hi X))) ∧ (hi (hi (hi X))) < 2135987035920910082395021706169552114602704522356652769947041607822219725780640550022962086936576 * P := by have := x2; show 0 ≤ (hi (hi X)) / 18446744073709551616 ∧ (hi (hi X)) / 18446744073709551616 < _; omega
  have x4 : 0 ≤ (hi (hi (hi (hi X)))) ∧ (hi (hi (hi (hi X)))) < 115792089237316195423570985008687907853269984665640564039457584007913129639936 * P := by have := x3; show 0 ≤ (hi (hi (hi X))) / 18446744073709551616 ∧ (hi (hi (hi X))) / 18446744073709551616 < _; omega
  have x5 : 0 ≤ (hi (hi (hi (hi (hi X))))) ∧ (hi (hi (hi (hi (hi X))))) < 6277101735386680763835789423207666416102355444464034512896 * P := by have := x4; show 0 ≤ (hi (hi (hi (hi X)))) / 18446744073709551616 ∧ (hi (hi (hi (hi X)))) / 18446744073709551616 < _; omega
  have x6 : 0 ≤ (hi (hi (hi (hi (hi (hi X)))))) ∧ (hi (hi (hi (hi (hi (hi X)))))) < 340282366920938463463374607431768211456 * P := by have := x5; show 0 ≤ (hi (hi (hi (hi (hi X))))) / 18446744073709551616 ∧ (hi (hi (hi (hi (hi X))))) / 18446744073709551616 < _; omega
  obtain ⟨W6, eW6⟩ : ∃ W, W = (hi (hi (hi (hi (hi (hi X)))))) := ⟨_, rfl⟩
  obtain ⟨Q6, eQ6⟩ : ∃ Q, Q = W6 / V := ⟨_, rfl⟩
  obtain ⟨R6, eR6⟩ : ∃ R, R = W6 % V := ⟨_, rfl⟩
  have b6 : 0 ≤ W6 ∧ W6 < V * 18446744073709551616 := by rw [eW6]; omega
  have ra6 : 0 ≤ R6 := by rw [eR6]; exact Int.emod_nonneg _ (by omega)
  have rb6 : R6 < V := by rw [eR6]; exact Int.emod_lt_of_pos _ hV0
  have qs6 : V * Q6 + R6 = W6 := by rw [eQ6, eR6]; exact Int.mul_ediv_add_emod _ _
  have qu6 : U64 Q6 := ⟨by rw [eQ6]; exact Int.ediv_nonneg b6.1 (by omega), by rw [eQ6, Int.ediv_lt_iff_lt_mul hV0, Int.mul_comm]; exact b6.2⟩
  have z6 : (hi (hi R6)) = 0 := by unfold hi; omega
  obtain ⟨T6, eT6⟩ : ∃ T, T = Q6 := ⟨_, rfl⟩
  have S6 : (hi (hi (hi (hi (hi (hi X)))))) = T6 * V + R6 := by rw [← eW6, eT6, Int.mul_comm]; exact qs6.symm
  obtain ⟨W5, eW5⟩ : ∃ W, W = L5 X + 18446744073709551616 * R6 := ⟨_, rfl⟩
  obtain ⟨Q5, eQ5⟩ : ∃ Q, Q = W5 / V := ⟨_, rfl⟩
  obtain ⟨R5, eR5⟩ : ∃ R, R = W5 % V := ⟨_, rfl⟩
  have b5 : 0 ≤ W5 ∧ W5 < V * 18446744073709551616 := by have h1 := L5_u X; unfold U64 at h1; rw [eW5]; omega
  have ra5 : 0 ≤ R5 := by rw [eR5]; exact Int.emod_nonneg _ (by omega)
  have rb5 : R5 < V := by rw [eR5]; exact Int.emod_lt_of_pos _ hV0
  have qs5 : V * Q5 + R5 = W5 := by rw [eQ5, eR5]; exact Int.mul_ediv_add_emod _ _
  have qu5 : U64 Q5 := ⟨by rw [eQ5]; exact Int.ediv_nonneg b5.1 (by omega), by rw [eQ5, Int.ediv_lt_iff_lt_mul hV0, Int.mul_comm]; exact b5.2⟩
  have z5 : (hi (hi R5)) = 0 := by unfold hi; omega
  obtain ⟨T5, eT5⟩ : ∃ T, T = Q5 + 18446744073709551616 * T6 := ⟨_, rfl⟩
  have S5 : (hi (hi (hi (hi (hi X))))) = T5 * V + R5 := by rw [eT5]; exact long_step (lo_hi (hi (hi (hi (hi (hi X)))))).symm S6 eW5 qs5
  obtain ⟨W4, eW4⟩ : ∃ W, W = L4 X + 18446744073709551616 * R5 := ⟨_, rfl⟩
  obtain ⟨Q4, eQ4⟩ : ∃ Q, Q = W4 / V := ⟨_, rfl⟩
  obtain ⟨R4, eR4⟩ : ∃ R, R = W4 % V := ⟨_, rfl⟩
  have b4 : 0 ≤ W4 ∧ W4 < V * 18446744073709551616 := by have h1 := L4_u X; unfold U64 at h1; rw [eW4]; omega
  have ra4 : 0 ≤ R4 := by rw [eR4]; exact Int.emod_nonneg _ (by omega)
  have rb4 : R4 < V := by rw [eR4]; exact Int.emod_lt_of_pos _ hV0
  have qs4 : V * Q4 + R4 = W4 := by rw [eQ4, eR4]; exact Int.mul_ediv_add_emod _ _
  have qu4 : U64 Q4 := ⟨by rw [eQ4]; exact Int.ediv_nonneg b4.1 (by omega), by rw [eQ4, Int.ediv_lt_iff_lt_mul hV0, Int.mul_comm]; exact b4.2⟩
  have z4 : (hi (hi R4)) = 0 := by unfold hi; omega
  obtain ⟨T4, eT4⟩ : ∃ T, T = Q4 + 18446744073709551616 * T5 := ⟨_, rfl⟩
  have S4 : (hi (hi (hi (hi X)))) = T4 * V + R4 := by rw [eT4]; exact long_step (lo_hi (hi (hi (hi (hi X))))).symm S5 eW4 qs4
  obtain ⟨W3, eW3⟩ : ∃ W, W = L3 X + 18446744073709551616 * R4 := ⟨_, rfl⟩
  obtain ⟨Q3, eQ3⟩ : ∃ Q, Q = W3 / V := ⟨_, rfl⟩
  obtain ⟨R3, eR3⟩ : ∃ R, R = W3 % V := ⟨_, rfl⟩
  have b3 : 0 ≤ W3 ∧ W3 < V * 18446744073709551616 := by have h1 := L3_u X; unfold U64 at h1; rw [eW3]; omega
  have ra3 : 0 ≤ R3 := by rw [eR3]; exact Int.emod_nonneg _ (by omega)
  have rb3 : R3 < V := by rw [eR3]; exact Int.emod_lt_of_pos _ hV0
  have qs3 : V * Q3 + R3 = W3 := by rw [eQ3, eR3]; exact Int.mul_ediv_add_emod _ _
  have qu3 : U64 Q3 := ⟨by rw [eQ3]; exact Int.ediv_nonneg b3.1 (by omega), by rw [eQ3, Int.ediv_lt_iff_lt_mul hV0, Int.mul_comm]; exact b3.2⟩
  have z3 : (hi (hi R3)) = 0 := by unfold hi; omega
  obtain ⟨T3, eT3⟩ : ∃ T, T = Q3 + 18446744073709551616 * T4 := ⟨_, rfl⟩
  have S3 : (hi (hi (hi X))) = T3 * V + R3 := by rw [eT3]; exact long_step (lo_hi (hi (hi (hi X)))).symm S4 eW3 qs3
  obtain ⟨W2, eW2⟩ : ∃ W, W = L2 X + 18446744073709551616 * R3 := ⟨_, rfl⟩
  obtain ⟨Q2, eQ2⟩ : ∃ Q, Q = W2 / V := ⟨_, rfl⟩
  obtain ⟨R2, eR2⟩ : ∃ R, R = W2 % V := ⟨_, rfl⟩
  have b2 : 0 ≤ W2 ∧ W2 < V * 18446744073709551616 := by have h1 := L2_u X; unfold U64 at h1; rw [eW2]; omega
  have ra2 : 0 ≤ R2 := by rw [eR2]; exact Int.emod_nonneg _ (by omega)
  have rb2 : R2 < V := by rw [eR2]; exact Int.emod_lt_of_pos _ hV0
  have qs2 : V * Q2 + R2 = W2 := by rw [eQ2, eR2]; exact Int.mul_ediv_add_emod _ _
  have qu2 : U64 Q2 := ⟨by rw [eQ2]; exact Int.ediv_nonneg b2.1 (by omega), by rw [eQ2, Int.ediv_lt_iff_lt_mul hV0, Int.mul_comm]; exact b2.2⟩
  have z2 : (hi (hi R2)) = 0 := by unfold hi; omega
  obtain ⟨T2, eT2⟩ : ∃ T, T = Q2 + 18446744073709551616 * T3 := ⟨_, rfl⟩
  have S2 : (hi (hi X)) = T2 * V + R2 := by rw [eT2]; exact long_step (lo_hi (hi (hi X))).symm S3 eW2 qs2
  obtain ⟨W1, eW1⟩ : ∃ W, W = L1 X + 18446744073709551616 * R2 := ⟨_, rfl⟩
  obtain ⟨Q1, eQ1⟩ : ∃ Q, Q = W1 / V := ⟨_, rfl⟩
  obtain ⟨R1, eR1⟩ : ∃ R, R = W1 % V := ⟨_, rfl⟩
  have b1 : 0 ≤ W1 ∧ W1 < V * 18446744073709551616 := by have h1 := L1_u X; unfold U64 at h1; rw [eW1]; omega
  have ra1 : 0 ≤ R1 := by rw [eR1]; exact Int.emod_nonneg _ (by omega)
  have rb1 : R1 < V := by rw [eR1]; exact Int.emod_lt_of_pos _ hV0
  have qs1 : V * Q1 + R1 = W1 := by rw [eQ1, eR1]; exact Int.mul_ediv_add_emod _ _
  have qu1 : U64 Q1 := ⟨by rw [eQ1]; exact Int.ediv_nonneg b1.1 (by omega), by rw [eQ1, Int.ediv_lt_iff_lt_mul hV0, Int.mul_comm]; exact b1.2⟩
  have z1 : (hi (hi R1)) = 0 := by unfold hi; omega
  obtain ⟨T1, eT1⟩ : ∃ T, T = Q1 + 18446744073709551616 * T2 := ⟨_, rfl⟩
  have S1 : (hi X) = T1 * V + R1 := by rw [eT1]; exact long_step (lo_hi (hi X)).symm S2 eW1 qs1
  obtain ⟨W0, eW0⟩ : ∃ W, W = L0 X + 18446744073709551616 * R1 := ⟨_, rfl⟩
  obtain ⟨Q0, eQ0⟩ : ∃ Q, Q = W0 / V := ⟨_, rfl⟩
  obtain ⟨R0, eR0⟩ : ∃ R, R = W0 % V := ⟨_, rfl⟩
  have b0 : 0 ≤ W0 ∧ W0 < V * 18446744073709551616 := by have h1 := L0_u X; unfold U64 at h1; rw [eW0]; omega
  have ra0 : 0 ≤ R0 := by rw [eR0]; exact Int.emod_nonneg _ (by omega)
  have rb0 : R0 < V := by rw [eR0]; exact Int.emod_lt_of_pos _ hV0
  have qs0 : V * Q0 + R0 = W0 := by rw [eQ0, eR0]; exact Int.mul_ediv_add_emod _ _
  have qu0 : U64 Q0 := ⟨by rw [eQ0]; exact Int.ediv_nonneg b0.1 (by omega), by rw [eQ0, Int.ediv_lt_iff_lt_mul hV0, Int.mul_comm]; exact b0.2⟩
  have z0 : (hi (hi R0)) = 0 := by unfold hi; omega
  obtain ⟨T0, eT0⟩ : ∃ T, T = Q0 + 18446744073709551616 * T1 := ⟨_, rfl⟩
  have S0 : X = T0 * V + R0 := by rw [eT0]; exact long_step (lo_hi X).symm S1 eW0 qs0
  obtain ⟨d1, d2⟩ := div_shift' hP hdp (by rw [← eX, ← eV]; exact S0) ra0 (by rw [← eV]; exact rb0)
  obtain ⟨r, er⟩ : ∃ r, r = n % d := ⟨_, rfl⟩
  have r0 : R0 = r * P := by rw [er]; exact d2
  have rn : 0 ≤ r := by rw [er]; exact Int.emod_nonneg _ (by omega)
  have rd : r < d := by rw [er]; exact Int.emod_lt_of_pos _ hdp
  have t0 : n / d = T0 := d1
  have t1 : (hi (n / d)) = T1 := by rw [t0, eT0]; exact (put_low qu0).2
  have t2 : (hi (hi (n / d))) = T2 := by rw [t1, eT1]; exact (put_low qu1).2
  have t3 : (hi (hi (hi (n / d)))) = T3 := by rw [t2, eT2]; exact (put_low qu2).2
  have t4 : (hi (hi (hi (hi (n / d))))) = T4 := by rw [t3, eT3]; exact (put_low qu3).2
  have t5 : (hi (hi (hi (hi (hi (n / d)))))) = T5 := by rw [t4, eT4]; exact (put_low qu4).2
  have t6 : (hi (hi (hi (hi (hi (hi (n / d))))))) = T6 := by rw [t5, eT5]; exact (put_low qu5).2
  have f0 : L0 (n / d) = Q0 := by show lo (n / d) = _; rw [t0, eT0]; exact (put_low qu0).1
  have f1 : L1 (n / d) = Q1 := by show lo (hi (n / d)) = _; rw [t1, eT1]; exact (put_low qu1).1
  have f2 : L2 (n / d) = Q2 := by show lo (hi (hi (n / d))) = _; rw [t2, eT2]; exact (put_low qu2).1
  have f3 : L3 (n / d) = Q3 := by show lo (hi (hi (hi (n / d)))) = _; rw [t3, eT3]; exact (put_low qu3).1
  have f4 : L4 (n / d) = Q4 := by show lo (hi (hi (hi (hi (n / d))))) = _; rw [t4, eT4]; exact (put_low qu4).1
  have f5 : L5 (n / d) = Q5 := by show lo (hi (hi (hi (hi (hi (n / d)))))) = _; rw [t5, eT5]; exact (put_low qu5).1
  have f6 : L6 (n / d) = Q6 := by show lo (hi (hi (hi (hi (hi (hi (n / d))))))) = _; rw [t6, eT6]; exact lo_id qu6
  have f7 : L7 (n / d) = 0 := by
    show lo (hi (hi (hi (hi (hi (hi (hi (n / d)))))))) = 0
    rw [show (hi (hi (hi (hi (hi (hi (hi (n / d)))))))) = (hi (hi (hi (hi (hi (hi (hi (n / d)))))))) from rfl, t6, eT6]
    have := qu6
    unfold U64 at this
    unfold lo hi
    omega
  have u0 := up_step' r 0 hP hR hPR (by omega) hP
  rw [Int.add_zero, ← r0] at u0
  have v1 : (hi R0) = (hi r) * P + L0 r / R := by exact u0.1
  have u1 := up_step' (hi r) (L0 r / R) hP hR hPR u0.2.1 u0.2.2
  have v2 : (hi (hi R0)) = (hi (hi r)) * P + L1 r / R := by rw [v1]; exact u1.1
  have rk : (hi (hi r)) = 0 := by unfold hi; omega
  have ck : L1 r / R = 0 := by have := v2; rw [z0, rk, Int.zero_mul, Int.zero_add] at this; exact this.symm
  have p0 : Go.bits .or .u64 (L0 R0 / 2 ^ s) (IntKind.u64.wrap (L1 R0 * 2 ^ t)) = L0 r := by
    rw [← eP, ← eR, show L1 R0 = lo ((hi r) * P + L0 r / R) by rw [← v1]; rfl, show L0 R0 = lo (r * P + 0) by rw [Int.add_zero, ← r0]; rfl]
    exact down_step r 0 (hi r) hP hR hPR (by omega) hP t eR.symm
  have p1 : Go.bits .or .u64 (L1 R0 / 2 ^ s) 0 = L1 r := by
    rw [← eP, show L1 R0 = lo ((hi r) * P + (L0 r / R)) by rw [← v1]; rfl]
    exact down_last (hi r) (L0 r / R) hP hR hPR u0.2.1 u0.2.2 ck
  have g2 : L2 r = 0 := by
    show lo (hi (hi r)) = 0
    rw [show (hi (hi r)) = (hi (hi r)) from rfl, rk]
    rfl
  have g3 : L3 r = 0 := by
    show lo (hi (hi (hi r))) = 0
    rw [show (hi (hi (hi r))) = (hi (hi (hi r))) from rfl, rk]
    rfl
  have hh := divide_walk_2 s t n d X V W0 Q0 R0 W1 Q1 R1 W2 Q2 R2 W3 Q3 R3 W4 Q4 R4 W5 Q5 R5 W6 Q6 R6 (L0 r) (L1 r) w (Lib.hid hn8) (by rw [show L2 d = 0 by unfold L2 lo hi; omega]; rfl) (by rw [show L3 d = 0 by unfold L3 lo hi; omega]; rfl) (beq_eq_false_iff_ne.2 hy) (Lib.hid LEN) (by omega) (by omega) (by omega) (by omega) (by rw [← eP]; exact eX.symm) (by rw [← eP]; exact eV.symm) (Lib.hid (by unfold hi; omega)) (Lib.hid ⟨hV1, hV2⟩) (by rw [eW6]; rfl) (by rw [eW6]; rfl) (by rw [eW6]; rfl) (Lib.hid b6) eQ6.symm eR6.symm (by show lo (hi (hi R6)) = 0; rw [z6]; rfl) (by rw [eW5]; exact (put_low (L5_u X)).1.symm) (by show _ = lo (hi W5); rw [eW5, show (hi (L5 X + 18446744073709551616 * R6)) = (hi (L5 X + 18446744073709551616 * R6)) from rfl, (put_low (L5_u X)).2]; rfl) (by show _ = lo (hi (hi W5)); rw [eW5, show (hi (hi (L5 X + 18446744073709551616 * R6))) = (hi (hi (L5 X + 18446744073709551616 * R6))) from rfl, (put_low (L5_u X)).2]; rfl) (Lib.hid b5) eQ5.symm eR5.symm (by show lo (hi (hi R5)) = 0; rw [z5]; rfl) (by rw [eW4]; exact (put_low (L4_u X)).1.symm) (by show _ = lo (hi W4); rw [eW4, show (hi (L4 X + 18446744073709551616 * R5)) = (hi (L4 X + 18446744073709551616 * R5)) from rfl, (put_low (L4_u X)).2]; rfl) (by show _ = lo (hi (hi W4)); rw [eW4, show (hi (hi (L4 X + 18446744073709551616 * R5))) = (hi (hi (L4 X + 18446744073709551616 * R5))) from rfl, (put_low (L4_u X)).2]; rfl) (Lib.hid b4) eQ4.symm eR4.symm (by show lo (hi (hi R4)) = 0; rw [z4]; rfl) (by rw [eW3]; exact (put_low (L3_u X)).1.symm) (by show _ = lo (hi W3); rw [eW3, show (hi (L3 X + 18446744073709551616 * R4)) = (hi (L3 X + 18446744073709551616 * R4)) from rfl, (put_low (L3_u X)).2]; rfl) (by show _ = lo (hi (hi W3)); rw [eW3, show (hi (hi (L3 X + 18446744073709551616 * R4))) = (hi (hi (L3 X + 18446744073709551616 * R4))) from rfl, (put_low (L3_u X)).2]; rfl) (Lib.hid b3) eQ3.symm eR3.symm (by show lo (hi (hi R3)) = 0; rw [z3]; rfl) (by rw [eW2]; exact (put_low (L2_u X)).1.symm) (by show _ = lo (hi W2); rw [eW2, show (hi (L2 X + 18446744073709551616 * R3)) = (hi (L2 X + 18446744073709551616 * R3)) from rfl, (put_low (L2_u X)).2]; rfl) (by show _ = lo (hi (hi W2)); rw [eW2, show (hi (hi (L2 X + 18446744073709551616 * R3))) = (hi (hi (L2 X + 18446744073709551616 * R3))) from rfl, (put_low (L2_u X)).2]; rfl) (Lib.hid b2) eQ2.symm eR2.symm (by show lo (hi (hi R2)) = 0; rw [z2]; rfl) (by rw [eW1]; exact (put_low (L1_u X)).1.symm) (by show _ = lo (hi W1); rw [eW1, show (hi (L1 X + 18446744073709551616 * R2)) = (hi (L1 X + 18446744073709551616 * R2)) from rfl, (put_low (L1_u X)).2]; rfl) (by show _ = lo (hi (hi W1)); rw [eW1, show (hi (hi (L1 X + 18446744073709551616 * R2))) = (hi (hi (L1 X + 18446744073709551616 * R2))) from rfl, (put_low (L1_u X)).2]; rfl) (Lib.hid b1) eQ1.symm eR1.symm (by show lo (hi (hi R1)) = 0; rw [z1]; rfl) (by rw [eW0]; exact (put_low (L0_u X)).1.symm) (by show _ = lo (hi W0); rw [eW0, show (hi (L0 X + 18446744073709551616 * R1)) = (hi (L0 X + 18446744073709551616 * R1)) from rfl, (put_low (L0_u X)).2]; rfl) (by show _ = lo (hi (hi W0)); rw [eW0, show (hi (hi (L0 X + 18446744073709551616 * R1))) = (hi (hi (L0 X + 18446744073709551616 * R1))) from rfl, (put_low (L0_u X)).2]; rfl) (Lib.hid b0) eQ0.symm eR0.symm (by show lo (hi (hi R0)) = 0; rw [z0]; rfl) p0 p1
  rw [← er, f0, f1, f2, f3, f4, f5, f6, f7, g2, g3]
  exact hh
end Go.Proofs.Ytgjdegahofoalaa.Wide

/- wide.Divide by a number of 3 limbs, as it computes it. -/
namespace Go.Proofs.Ytgjdegahofoalaa.Wide
open Go.RowKit

set_option maxHeartbeats 20000000 in
set_option maxRecDepth 100000 in
theorem divide_walk_3 (s t : Nat) (n d X V W0 Q0 R0 W1 Q1 R1 W2 Q2 R2 W3 Q3 R3 W4 Q4 R4 W5 Q5 R5 P0 P1 P2 : Int) (w : World) (hn8 : Hid ((hi (hi (hi (hi (hi (hi (hi (hi n)))))))) = 0))
    (hz3 : (L3 d == 0) = true)
    (hnz : (L2 d == 0) = false)
    (LEN : Hid (∀ w, Calls Try.prog 38 #[.int .u64 (L2 d)] w fun e w' => e = .returned (.int .i64 (t : Int)) ∧ w = w'))
    (h1 : 64 - (s : Int) = (t : Int)) (h2 : 64 - (t : Int) = (s : Int)) (hs : (s : Int) ≤ 63) (ht : (t : Int) ≤ 64) (hX : n * 2 ^ s = X) (hV : d * 2 ^ s = V) (hVk : Hid ((hi (hi (hi d))) = 0))
    (vb : Hid (V < 6277101735386680763835789423207666416102355444464034512896 ∧ 6277101735386680763835789423207666416102355444464034512896 ≤ 2 * V))
    (w5_0 : L5 X = L0 W5)
    (w5_1 : L6 X = L1 W5)
    (w5_2 : L7 X = L2 W5)
    (w5_3 : L8 X = L3 W5)
    (b5 : Hid (0 ≤ W5 ∧ W5 < V * 18446744073709551616)) (q5 : W5 / V = Q5) (r5 : W5 % V = R5) (z5 : L3 R5 = 0)
    (w4_0 : L4 X = L0 W4)
    (w4_1 : L0 R5 = L1 W4)
    (w4_2 : L1 R5 = L2 W4)
    (w4_3 : L2 R5 = L3 W4)
    (b4 : Hid (0 ≤ W4 ∧ W4 < V * 18446744073709551616)) (q4 : W4 / V = Q4) (r4 : W4 % V = R4) (z4 : L3 R4 = 0)
    (w3_0 : L3 X = L0 W3)
    (w3_1 : L0 R4 = L1 W3)
    (w3_2 : L1 R4 = L2 W3)
    (w3_3 : L2 R4 = L3 W3)
    (b3 : Hid (0 ≤ W3 ∧ W3 < V * 18446744073709551616)) (q3 : W3 / V = Q3) (r3 : W3 % V = R3) (z3 : L3 R3 = 0)
    (w2_0 : L2 X = L0 W2)
    (w2_1 : L0 R3 = L1 W2)
    (w2_2 : L1 R3 = L2 W2)
    (w2_3 : L2 R3 = L3 W2)
    (b2 : Hid (0 ≤ W2 ∧ W2 < V * 18446744073709551616)) (q2 : W2 / V = Q2) (r2 : W2 % V = R2) (z2 : L3 R2 = 0)
    (w1_0 : L1 X = L0 W1)
    (w1_1 : L0 R2 = L1 W1)
    (w1_2 : L1 R2 = L2 W1)
    (w1_3 : L2 R2 = L3 W1)
    (b1 : Hid (0 ≤ W1 ∧ W1 < V * 18446744073709551616)) (q1 : W1 / V = Q1) (r1 : W1 % V = R1) (z1 : L3 R1 = 0)
    (w0_0 : L0 X = L0 W0)
    (w0_1 : L0 R1 = L1 W0)
    (w0_2 : L1 R1 = L2 W0)
    (w0_3 : L2 R1 = L3 W0)
    (b0 : Hid (0 ≤ W0 ∧ W0 < V * 18446744073709551616)) (q0 : W0 / V = Q0) (r0 : W0 % V = R0) (z0 : L3 R0 = 0)
    (p0 : Go.bits .or .u64 (L0 R0 / 2 ^ s) (IntKind.u64.wrap (L1 R0 * 2 ^ t)) = P0)
    (p1 : Go.bits .or .u64 (L1 R0 / 2 ^ s) (IntKind.u64.wrap (L2 R0 * 2 ^ t)) = P1)
    (p2 : Go.bits .or .u64 (L2 R0 / 2 ^ s) (0) = P2) :
    Calls Try.prog 33 #[.agg #[.int .u64 (L0 n), .int .u64 (L1 n), .int .u64 (L2 n), .int .u64 (L3 n), .int .u64 (L4 n), .int .u64 (L5 n), .int .u64 (L6 n), .int .u64 (L7 n)], .agg #[.int .u64 (L0 d), .int .u64 (L1 d), .int .u64 (L2 d), .int .u64 (L3 d)]] w fun e w' => e = .returned (.tuple #[.agg #[.int .u64 Q0, .int .u64 Q1, .int .u64 Q2, .int .u64 Q3, .int .u64 Q4, .int .u64 Q5, .int .u64 0, .int .u64 0], .agg #[.int .u64 P0, .int .u64 P1, .int .u64 P2, .int .u64 0], .int .i64 0]) ∧ Below w.heap.size w w' := by
  have wl0 : IntKind.i64.wrap 0 = 0 := by rfl
  have wl1 : IntKind.i64.wrap 1 = 1 := by rfl
  have wl2 : IntKind.i64.wrap 2 = 2 := by rfl
  have wl3 : IntKind.i64.wrap 3 = 3 := by rfl
  have wl4 : IntKind.i64.wrap 4 = 4 := by rfl
  have wl5 : IntKind.i64.wrap 5 = 5 := by rfl
  have wl6 : IntKind.i64.wrap 6 = 6 := by rfl
  have wl7 : IntKind.i64.wrap 7 = 7 := by rfl
  have wl8 : IntKind.i64.wrap 8 = 8 := by rfl
  have wl9 : IntKind.i64.wrap 9 = 9 := by rfl
  have wt : IntKind.i64.wrap (t : Int) = (t : Int) := wrap_i64_nat (by omega)
  have ws : IntKind.i64.wrap (s : Int) = (s : Int) := wrap_i64_nat (by omega)
  go_enter Try.func33, Try.ntmps33
  go_wp2_with fail
  refine wp_loop_rounds 2 ?_
  rw [rounds_succ]
  go_wp2_with fail
  rw [rounds_succ]
  go_wp2_with fail
  refine (LEN.out _).mono ?_
  rintro e w' ⟨rfl, rfl⟩
  go_wp2_with fail
  go_region_held3 (fun _ => True) (trivial) (first | (go_at_call 39; refine (up_calls_9_8 (w.heap.size + 1 + 1 + 1 + 1) (w.heap.size) s t (n := n) 0 0 0 0 0 0 0 0 0 77 _ (by go_simp) (by omega) h1 hs hn8.out (by go_simp) (by go_simp) (by go_simp) (by go_simp) (by go_simp) (by go_simp) (by go_simp) (by go_simp)).mono ?_; rintro e w' ⟨rfl, m, rfl⟩))
  go_wp2_with fail
  go_region_held3 (fun _ => True) (trivial) (first | (go_at_call 39; refine (up_calls_3_3 (w.heap.size + 1 + 1 + 1 + 1 + 1) (w.heap.size + 1) s t (n := d) 0 0 0 0 23 _ (by go_simp) (by omega) h1 hs hVk.out (by go_simp) (by go_simp) (by go_simp)).mono ?_; rintro e w' ⟨rfl, m, rfl⟩))
  go_wp2_with fail
  refine wp_loop_rounds 7 ?_
  rw [rounds_succ]
  go_wp2_with fail
  go_region_held3 (fun _ => True) (trivial) (first | (go_at_call 40; refine (step_calls_3 (w.heap.size + 1 + 1 + 1 + 1) 5 (w.heap.size + 1 + 1 + 1 + 1 + 1) 4 4 (U := W5) (V := V) _ (by omega) b5.out.1 b5.out.2 vb.out.1 vb.out.2 (by go_simp) (by go_simp) (by go_simp) (by go_simp) (by go_simp) (by go_simp) (by go_simp) (by go_simp) (by go_simp) (by go_simp) (by go_simp)).mono ?_; rintro e w' ⟨rfl, m, rfl⟩))
  go_wp2_with fail
  rw [rounds_succ]
  go_wp2_with fail
  go_region_held3 (fun _ => True) (trivial) (first | (go_at_call 40; refine (step_calls_3 (w.heap.size + 1 + 1 + 1 + 1) 4 (w.heap.size + 1 + 1 + 1 + 1 + 1) 5 4 (U := W4) (V := V) _ (by omega) b4.out.1 b4.out.2 vb.out.1 vb.out.2 (by go_simp) (by go_simp) (by go_simp) (by go_simp) (by go_simp) (by go_simp) (by go_simp) (by go_simp) (by go_simp) (by go_simp) (by go_simp)).mono ?_; rintro e w' ⟨rfl, m, rfl⟩))
  go_wp2_with fail
  rw [rounds_succ]
  go_wp2_with fail
  go_region_held3 (fun _ => True) (trivial) (first | (go_at_call 40; refine (step_calls_3 (w.heap.size + 1 + 1 + 1 + 1) 3 (w.heap.size + 1 + 1 + 1 + 1 + 1) 6 4 (U := W3) (V := V) _ (by omega) b3.out.1 b3.out.2 vb.out.1 vb.out.2 (by go_simp) (by go_simp) (by go_simp) (by go_simp) (by go_simp) (by go_simp) (by go_simp) (by go_simp) (by go_simp) (by go_simp) (by go_simp)).mono ?_; rintro e w' ⟨rfl, m, rfl⟩))
  go_wp2_with fail
  rw [rounds_succ]
  go_wp2_with fail
  go_region_held3 (fun _ => True) (trivial) (first | (go_at_call 40; refine (step_calls_3 (w.heap.size + 1 + 1 + 1 + 1) 2 (w.heap.size + 1 + 1 + 1 + 1 + 1) 7 4 (U := W2) (V := V) _ (by omega) b2.out.1 b2.out.2 vb.out.1 vb.out.2 (by go_simp) (by go_simp) (by go_simp) (by go_simp) (by go_simp) (by go_simp) (by go_simp) (by go_simp) (by go_simp) (by go_simp) (by go_simp)).mono ?_; rintro e w' ⟨rfl, m, rfl⟩))
  go_wp2_with fail
  rw [rounds_succ]
  go_wp2_with fail
  go_region_held3 (fun _ => True) (trivial) (first | (go_at_call 40; refine (step_calls_3 (w.heap.size + 1 + 1 + 1 + 1) 1 (w.heap.size + 1 + 1 + 1 + 1 + 1) 8 4 (U := W1) (V := V) _ (by omega) b1.out.1 b1.out.2 vb.out.1 vb.out.2 (by go_simp) (by go_simp) (by go_simp) (by go_simp) (by go_simp) (by go_simp) (by go_simp) (by go_simp) (by go_simp) (by go_simp) (by go_simp)).mono ?_; rintro e w' ⟨rfl, m, rfl⟩))
  go_wp2_with fail
  rw [rounds_succ]
  go_wp2_with fail
  go_region_held3 (fun _ => True) (trivial) (first | (go_at_call 40; refine (step_calls_3 (w.heap.size + 1 + 1 + 1 + 1) 0 (w.heap.size + 1 + 1 + 1 + 1 + 1) 9 4 (U := W0) (V := V) _ (by omega) b0.out.1 b0.out.2 vb.out.1 vb.out.2 (by go_simp) (by go_simp) (by go_simp) (by go_simp) (by go_simp) (by go_simp) (by go_simp) (by go_simp) (by go_simp) (by go_simp) (by go_simp)).mono ?_; rintro e w' ⟨rfl, m, rfl⟩))
  go_wp2_with fail
  rw [rounds_succ]
  go_wp2_with fail
  refine wp_loop_rounds 4 ?_
  rw [rounds_succ]
  go_wp2_with fail
  go_region_held3 (fun w' => w'.cell? ⟨w.heap.size + 1 + 1 + 1 + 1, 0, none⟩ = some (.int .u64 (L0 R0)) ∧ w'.cell? ⟨w.heap.size + 1 + 1 + 1 + 1, 1, none⟩ = some (.int .u64 (L1 R0))) ((refine ⟨?_, ?_⟩; all_goals go_simp)) (fail)
  go_wp2_with fail
  rw [rounds_succ]
  go_wp2_with fail
  go_region_held3 (fun w' => w'.cell? ⟨w.heap.size + 1 + 1 + 1 + 1, 1, none⟩ = some (.int .u64 (L1 R0)) ∧ w'.cell? ⟨w.heap.size + 1 + 1 + 1 + 1, 2, none⟩ = some (.int .u64 (L2 R0))) ((refine ⟨?_, ?_⟩; all_goals go_simp)) (fail)
  go_wp2_with fail
  rw [rounds_succ]
  go_wp2_with fail
  go_region_held3 (fun w' => w'.cell? ⟨w.heap.size + 1 + 1 + 1 + 1, 2, none⟩ = some (.int .u64 (L2 R0)) ∧ w'.cell? ⟨w.heap.size + 1 + 1 + 1 + 1, 3, none⟩ = some (.int .u64 0)) ((refine ⟨?_, ?_⟩; all_goals go_simp)) (fail)
  go_wp2_with fail
  rw [rounds_succ]
  go_wp2_with fail
  go_region
  go_wp2_with fail
  refine bodyPost_ret (v := .tuple #[.agg #[.int .u64 Q0, .int .u64 Q1, .int .u64 Q2, .int .u64 Q3, .int .u64 Q4, .int .u64 Q5, .int .u64 0, .int .u64 0], .agg #[.int .u64 P0, .int .u64 P1, .int .u64 P2, .int .u64 0], .int .i64 0]) (by simp [results, Try.results33, go_sem]) rfl ⟨rfl, ?_⟩
  repeat (first | exact Below.refl _ _ | assumption | apply bdrewN | apply below_drew1 | apply below_al | (refine below_set (by simp <;> omega) ?_))
end Go.Proofs.Ytgjdegahofoalaa.Wide

/- wide.Divide by a number of 3 limbs: quotient and remainder. -/
namespace Go.Proofs.Ytgjdegahofoalaa.Wide
open Go.RowKit

theorem divide_calls_3 {n d : Int} (hn0 : 0 ≤ n) (hn8 : (hi (hi (hi (hi (hi (hi (hi (hi n)))))))) = 0) (hd0 : 0 ≤ d) (hdk : d < 6277101735386680763835789423207666416102355444464034512896) (hy : ¬ L2 d = 0) (w : World) :
    Calls Try.prog 33 #[.agg #[.int .u64 (L0 n), .int .u64 (L1 n), .int .u64 (L2 n), .int .u64 (L3 n), .int .u64 (L4 n), .int .u64 (L5 n), .int .u64 (L6 n), .int .u64 (L7 n)], .agg #[.int .u64 (L0 d), .int .u64 (L1 d), .int .u64 (L2 d), .int .u64 (L3 d)]] w fun e w' => e = .returned (.tuple #[.agg #[.int .u64 (L0 (n / d)), .int .u64 (L1 (n / d)), .int .u64 (L2 (n / d)), .int .u64 (L3 (n / d)), .int .u64 (L4 (n / d)), .int .u64 (L5 (n / d)), .int .u64 (L6 (n / d)), .int .u64 (L7 (n / d))], .agg #[.int .u64 (L0 (n % d)), .int .u64 (L1 (n % d)), .int .u64 (L2 (n % d)), .int .u64 (L3 (n % d))], .int .i64 0]) ∧ Below w.heap.size w w' := by
  obtain ⟨m, hm⟩ := Int.eq_ofNat_of_zero_le (L2_u d).1
  have hmu : m < 2 ^ 64 := by
    have h64 : (2 : Nat) ^ 64 = 18446744073709551616 := rfl
    have := (L2_u d).2
    rw [h64]; omega
  have hm0 : m ≠ 0 := by rintro rfl; exact hy hm
  obtain ⟨l1, l2, l3⟩ := Limb.lenN_bd hm0
  have l4 := Limb.lenN_le hmu
  obtain ⟨t, ht⟩ : ∃ t, t = Limb.lenN m := ⟨_, rfl⟩
  rw [← ht] at l1 l2 l3 l4
  obtain ⟨s, hs⟩ : ∃ s, s = 64 - t := ⟨_, rfl⟩
  have hP : (0 : Int) < 2 ^ s := Int.pow_pos (by decide)
  have hR : (0 : Int) < 2 ^ t := Int.pow_pos (by decide)
  have hPR : (2 : Int) ^ s * 2 ^ t = 18446744073709551616 := by
    rw [← Int.pow_add, show s + t = 64 by omega]
    rfl
  have LEN : ∀ w, Calls Try.prog 38 #[.int .u64 (L2 d)] w fun e w' => e = .returned (.int .i64 (t : Int)) ∧ w = w' := by
    intro w
    rw [hm, ht]
    exact Limb.len_calls m hmu w
  -- the divisor's highest limb, moved up
  have y1 : (L2 d + 1) * 2 ^ s ≤ 18446744073709551616 := by
    have h1 : L2 d + 1 ≤ 2 ^ t := by rw [hm]; exact_mod_cast l2
    have h2 := Int.mul_le_mul_of_nonneg_right h1 (Int.le_of_lt hP)
    rw [Int.mul_comm (2 ^ t), hPR] at h2
    exact h2
  have y2 : 18446744073709551616 ≤ 2 * (L2 d * 2 ^ s) := by
    have h1 : (2 : Int) ^ t ≤ 2 * L2 d := by
      rw [hm]
      have h3 : 2 ^ t = 2 * 2 ^ (t - 1) := by rw [← Nat.pow_succ', show (t - 1).succ = t by omega]
      have h4 : 2 ^ t ≤ 2 * m := by omega
      exact_mod_cast h4
    have h2 := Int.mul_le_mul_of_nonneg_right h1 (Int.le_of_lt hP)
    rw [Int.mul_comm (2 ^ t), hPR, Int.mul_assoc] at h2
    exact h2
  have hPs : (2 : Int) ^ s ≤ 9223372036854775808 := by
    have h1 : (2 : Nat) ^ 1 ≤ 2 ^ t := Nat.pow_le_pow_right (by decide) l3
    have h2 : (2 : Int) ≤ 2 ^ t := by exact_mod_cast h1
    have h3 : (2 : Int) ^ s * 2 ≤ 2 ^ s * 2 ^ t := Int.mul_le_mul_of_nonneg_left h2 (Int.le_of_lt hP)
    rw [hPR] at h3
    omega
  obtain ⟨P, eP⟩ : ∃ P, P = (2 : Int) ^ s := ⟨_, rfl⟩
  obtain ⟨R, eR⟩ : ∃ R, R = (2 : Int) ^ t := ⟨_, rfl⟩
  rw [← eP] at hP hPR y1 y2 hPs
  rw [← eR] at hR hPR
  have dsp : L2 d * 340282366920938463463374607431768211456 ≤ d ∧ d < (L2 d + 1) * 340282366920938463463374607431768211456 := by unfold L2 lo; (try unfold hi); omega
  obtain ⟨V, eV⟩ : ∃ V, V = d * P := ⟨_, rfl⟩
  have hV1 : V < 6277101735386680763835789423207666416102355444464034512896 := by
    have h1 : (d + 1) * P ≤ ((L2 d + 1) * 340282366920938463463374607431768211456) * P := Int.mul_le_mul_of_nonneg_right (by omega) (by omega)
    have h2 : ((L2 d + 1) * 340282366920938463463374607431768211456) * P = ((L2 d + 1) * P) * 340282366920938463463374607431768211456 := Int.mul_right_comm _ _ _
    rw [h2, Int.add_mul d, Int.one_mul] at h1
    have h3 : ((L2 d + 1) * P) * 340282366920938463463374607431768211456 ≤ 18446744073709551616 * 340282366920938463463374607431768211456 := Int.mul_le_mul_of_nonneg_right y1 (by decide)
    omega
  have hV2 : 6277101735386680763835789423207666416102355444464034512896 ≤ 2 * V := by
    have h1 : (L2 d * 340282366920938463463374607431768211456) * P ≤ d * P := Int.mul_le_mul_of_nonneg_right dsp.1 (by omega)
    have h2 : (L2 d * 340282366920938463463374607431768211456) * P = (L2 d * P) * 340282366920938463463374607431768211456 := Int.mul_right_comm _ _ _
    rw [h2] at h1
    have h3 : 18446744073709551616 * 340282366920938463463374607431768211456 ≤ (2 * (L2 d * P)) * 340282366920938463463374607431768211456 := Int.mul_le_mul_of_nonneg_right y2 (by decide)
    rw [Int.mul_assoc 2] at h3
    omega
  have hV0 : 0 < V := by omega
  have hdp : 0 < d := by
    by_cases hd : 0 < d
    · exact hd
    · have : d = 0 := by omega
      rw [this, Int.zero_mul] at eV
      omega
  obtain ⟨X, eX⟩ : ∃ X, X = n * P := ⟨_, rfl⟩
  have hX0 : 0 ≤ X := by rw [eX]; exact Int.mul_nonneg hn0 (by omega)
  have hXu : X < 13407807929942597099574024998205846127479365820592393377723561443721764030073546976801874298166903427690031858186486050853753882811946569946433649006084096 * P := by
    rw [eX]
    exact Int.mul_lt_mul_of_pos_right (by unfold hi at hn8; omega) hP
  have x1 : 0 ≤ (hi X) ∧ (hi X) < 726838724295606890549323807888004534353641360687318060281490199180639288113397923326191050713763565560762521606266177933534601628614656 * P := by unfold hi; omega
  have x2 : 0 ≤ (hi (hi X)) ∧ (hi (hi X)) < 39402006196394479212279040100143613805079739270465446667948293404245721771497210611414266254884915640806627990306816 * P := by have := x1; show 0 ≤ (hi X) / 18446744073709551616 ∧ (hi X) / 18446744073709551616 < _; omega
  have x3 : 0 ≤ (hi (hi (hi X))) ∧ (hi (hi (hi X))) < 2135987035920910082395021706169552114602704522356652769947041607822219725780640550022962086936576 * P := by have := x2; show 0 ≤ (hi (hi X)) / 18446744073709551616 ∧ (hi (hi X)) / 18446744073709551616 < _; omega
  have x4 : 0 ≤ (hi (hi (hi (hi X)))) ∧ (hi (hi (hi (hi X)))) < 115792089237316195423570985008687907853269984665640564039457584007913129639936 * P := by have := x3; show 0 ≤ (hi (hi (hi X))) / 18446744073709551616 ∧ (hi (hi (hi X))) / 18446744073709551616 < _; omega
  have x5 : 0 ≤ (hi (hi (hi (hi (hi X))))) ∧ (hi (hi (hi (hi (hi X))))) < 6277101735386680763835789423207666416102355444464034512896 * P := by have := x4; show 0 ≤ (hi (hi (hi (hi X)))) / 18446744073709551616 ∧ (hi (hi (hi (hi X)))) / 18446744073709551616 < _; omega
  obtain ⟨W5, eW5⟩ : ∃ W, W = (hi (hi (hi (hi (hi X))))) := ⟨_, rfl⟩
  obtain ⟨Q5, eQ5⟩ : ∃ Q, Q = W5 / V := ⟨_, rfl⟩
  obtain ⟨R5, eR5⟩ : ∃ R, R = W5 % V := ⟨_, rfl⟩
  have b5 : 0 ≤ W5 ∧ W5 < V * 18446744073709551616 := by rw [eW5]; omega
  have ra5 : 0 ≤ R5 := by rw [eR5]; exact Int.emod_nonneg _ (by omega)
  have rb5 : R5 < V := by rw [eR5]; exact Int.emod_lt_of_pos _ hV0
  have qs5 : V * Q5 + R5 = W5 := by rw [eQ5, eR5]; exact Int.mul_ediv_add_emod _ _
  have qu5 : U64 Q5 := ⟨by rw [eQ5]; exact Int.ediv_nonneg b5.1 (by omega), by rw [eQ5, Int.ediv_lt_iff_lt_mul hV0, Int.mul_comm]; exact b5.2⟩
  have z5 : (hi (hi (hi R5))) = 0 := by unfold hi; omega
  obtain ⟨T5, eT5⟩ : ∃ T, T = Q5 := ⟨_, rfl⟩
  have S5 : (hi (hi (hi (hi (hi X))))) = T5 * V + R5 := by rw [← eW5, eT5, Int.mul_comm]; exact qs5.symm
  obtain ⟨W4, eW4⟩ : ∃ W, W = L4 X + 18446744073709551616 * R5 := ⟨_, rfl⟩
  obtain ⟨Q4, eQ4⟩ : ∃ Q, Q = W4 / V := ⟨_, rfl⟩
  obtain ⟨R4, eR4⟩ : ∃ R, R = W4 % V := ⟨_, rfl⟩
  have b4 : 0 ≤ W4 ∧ W4 < V * 18446744073709551616 := by have h1 := L4_u X; unfold U64 at h1; rw [eW4]; omega
  have ra4 : 0 ≤ R4 := by rw [eR4]; exact Int.emod_nonneg _ (by omega)
  have rb4 : R4 < V := by rw [eR4]; exact Int.emod_lt_of_pos _ hV0
  have qs4 : V * Q4 + R4 = W4 := by rw [eQ4, eR4]; exact Int.mul_ediv_add_emod _ _
  have qu4 : U64 Q4 := ⟨by rw [eQ4]; exact Int.ediv_nonneg b4.1 (by omega), by rw [eQ4, Int.ediv_lt_iff_lt_mul hV0, Int.mul_comm]; exact b4.2⟩
  have z4 : (hi (hi (hi R4))) = 0 := by unfold hi; omega
  obtain ⟨T4, eT4⟩ : ∃ T, T = Q4 + 18446744073709551616 * T5 := ⟨_, rfl⟩
  have S4 : (hi (hi (hi (hi X)))) = T4 * V + R4 := by rw [eT4]; exact long_step (lo_hi (hi (hi (hi (hi X))))).symm S5 eW4 qs4
  obtain ⟨W3, eW3⟩ : ∃ W, W = L3 X + 18446744073709551616 * R4 := ⟨_, rfl⟩
  obtain ⟨Q3, eQ3⟩ : ∃ Q, Q = W3 / V := ⟨_, rfl⟩
  obtain ⟨R3, eR3⟩ : ∃ R, R = W3 % V := ⟨_, rfl⟩
  have b3 : 0 ≤ W3 ∧ W3 < V * 18446744073709551616 := by have h1 := L3_u X; unfold U64 at h1; rw [eW3]; omega
  have ra3 : 0 ≤ R3 := by rw [eR3]; exact Int.emod_nonneg _ (by omega)
  have rb3 : R3 < V := by rw [eR3]; exact Int.emod_lt_of_pos _ hV0
  have qs3 : V * Q3 + R3 = W3 := by rw [eQ3, eR3]; exact Int.mul_ediv_add_emod _ _
  have qu3 : U64 Q3 := ⟨by rw [eQ3]; exact Int.ediv_nonneg b3.1 (by omega), by rw [eQ3, Int.ediv_lt_iff_lt_mul hV0, Int.mul_comm]; exact b3.2⟩
  have z3 : (hi (hi (hi R3))) = 0 := by unfold hi; omega
  obtain ⟨T3, eT3⟩ : ∃ T, T = Q3 + 18446744073709551616 * T4 := ⟨_, rfl⟩
  have S3 : (hi (hi (hi X))) = T3 * V + R3 := by rw [eT3]; exact long_step (lo_hi (hi (hi (hi X)))).symm S4 eW3 qs3
  obtain ⟨W2, eW2⟩ : ∃ W, W = L2 X + 18446744073709551616 * R3 := ⟨_, rfl⟩
  obtain ⟨Q2, eQ2⟩ : ∃ Q, Q = W2 / V := ⟨_, rfl⟩
  obtain ⟨R2, eR2⟩ : ∃ R, R = W2 % V := ⟨_, rfl⟩
  have b2 : 0 ≤ W2 ∧ W2 < V * 18446744073709551616 := by have h1 := L2_u X; unfold U64 at h1; rw [eW2]; omega
  have ra2 : 0 ≤ R2 := by rw [eR2]; exact Int.emod_nonneg _ (by omega)
  have rb2 : R2 < V := by rw [eR2]; exact Int.emod_lt_of_pos _ hV0
  have qs2 : V * Q2 + R2 = W2 := by rw [eQ2, eR2]; exact Int.mul_ediv_add_emod _ _
  have qu2 : U64 Q2 := ⟨by rw [eQ2]; exact Int.ediv_nonneg b2.1 (by omega), by rw [eQ2, Int.ediv_lt_iff_lt_mul hV0, Int.mul_comm]; exact b2.2⟩
  have z2 : (hi (hi (hi R2))) = 0 := by unfold hi; omega
  obtain ⟨T2, eT2⟩ : ∃ T, T = Q2 + 18446744073709551616 * T3 := ⟨_, rfl⟩
  have S2 : (hi (hi X)) = T2 * V + R2 := by rw [eT2]; exact long_step (lo_hi (hi (hi X))).symm S3 eW2 qs2
  obtain ⟨W1, eW1⟩ : ∃ W, W = L1 X + 18446744073709551616 * R2 := ⟨_, rfl⟩
  obtain ⟨Q1, eQ1⟩ : ∃ Q, Q = W1 / V := ⟨_, rfl⟩
  obtain ⟨R1, eR1⟩ : ∃ R, R = W1 % V := ⟨_, rfl⟩
  have b1 : 0 ≤ W1 ∧ W1 < V * 18446744073709551616 := by have h1 := L1_u X; unfold U64 at h1; rw [eW1]; omega
  have ra1 : 0 ≤ R1 := by rw [eR1]; exact Int.emod_nonneg _ (by omega)
  have rb1 : R1 < V := by rw [eR1]; exact Int.emod_lt_of_pos _ hV0
  have qs1 : V * Q1 + R1 = W1 := by rw [eQ1, eR1]; exact Int.mul_ediv_add_emod _ _
  have qu1 : U64 Q1 := ⟨by rw [eQ1]; exact Int.ediv_nonneg b1.1 (by omega), by rw [eQ1, Int.ediv_lt_iff_lt_mul hV0, Int.mul_comm]; exact b1.2⟩
  have z1 : (hi (hi (hi R1))) = 0 := by unfold hi; omega
  obtain ⟨T1, eT1⟩ : ∃ T, T = Q1 + 18446744073709551616 * T2 := ⟨_, rfl⟩
  have S1 : (hi X) = T1 * V + R1 := by rw [eT1]; exact long_step (lo_hi (hi X)).symm S2 eW1 qs1
  obtain ⟨W0, eW0⟩ : ∃ W, W = L0 X + 18446744073709551616 * R1 := ⟨_, rfl⟩
  obtain ⟨Q0, eQ0⟩ : ∃ Q, Q = W0 / V := ⟨_, rfl⟩
  obtain ⟨R0, eR0⟩ : ∃ R, R = W0 % V := ⟨_, rfl⟩
  have b0 : 0 ≤ W0 ∧ W0 < V * 18446744073709551616 := by have h1 := L0_u X; unfold U64 at h1; rw [eW0]; omega
  have ra0 : 0 ≤ R0 := by rw [eR0]; exact Int.emod_nonneg _ (by omega)
  have rb0 : R0 < V := by rw [eR0]; exact Int.emod_lt_of_pos _ hV0
  have qs0 : V * Q0 + R0 = W0 := by rw [eQ0, eR0]; exact Int.mul_ediv_add_emod _ _
  have qu0 : U64 Q0 := ⟨by rw [eQ0]; exact Int.ediv_nonneg b0.1 (by omega), by rw [eQ0, Int.ediv_lt_iff_lt_mul hV0, Int.mul_comm]; exact b0.2⟩
  have z0 : (hi (hi (hi R0))) = 0 := by unfold hi; omega
  obtain ⟨T0, eT0⟩ : ∃ T, T = Q0 + 18446744073709551616 * T1 := ⟨_, rfl⟩
  have S0 : X = T0 * V + R0 := by rw [eT0]; exact long_step (lo_hi X).symm S1 eW0 qs0
  obtain ⟨d1, d2⟩ := div_shift' hP hdp (by rw [← eX, ← eV]; exact S0) ra0 (by rw [← eV]; exact rb0)
  obtain ⟨r, er⟩ : ∃ r, r = n % d := ⟨_, rfl⟩
  have r0 : R0 = r * P := by rw [er]; exact d2
  have rn : 0 ≤ r := by rw [er]; exact Int.emod_nonneg _ (by omega)
  have rd : r < d := by rw [er]; exact Int.emod_lt_of_pos _ hdp
  have t0 : n / d = T0 := d1
  have t1 : (hi (n / d)) = T1 := by rw [t0, eT0]; exact (put_low qu0).2
  have t2 : (hi (hi (n / d))) = T2 := by rw [t1, eT1]; exact (put_low qu1).2
  have t3 : (hi (hi (hi (n / d)))) = T3 := by rw [t2, eT2]; exact (put_low qu2).2
  have t4 : (hi (hi (hi (hi (n / d))))) = T4 := by rw [t3, eT3]; exact (put_low qu3).2
  have t5 : (hi (hi (hi (hi (hi (n / d)))))) = T5 := by rw [t4, eT4]; exact (put_low qu4).2
  have f0 : L0 (n / d) = Q0 := by show lo (n / d) = _; rw [t0, eT0]; exact (put_low qu0).1
  have f1 : L1 (n / d) = Q1 := by show lo (hi (n / d)) = _; rw [t1, eT1]; exact (put_low qu1).1
  have f2 : L2 (n / d) = Q2 := by show lo (hi (hi (n / d))) = _; rw [t2, eT2]; exact (put_low qu2).1
  have f3 : L3 (n / d) = Q3 := by show lo (hi (hi (hi (n / d)))) = _; rw [t3, eT3]; exact (put_low qu3).1
  have f4 : L4 (n / d) = Q4 := by show lo (hi (hi (hi (hi (n / d))))) = _; rw [t4, eT4]; exact (put_low qu4).1
  have f5 : L5 (n / d) = Q5 := by show lo (hi (hi (hi (hi (hi (n / d)))))) = _; rw [t5, eT5]; exact lo_id qu5
  have f6 : L6 (n / d) = 0 := by
    show lo (hi (hi (hi (hi (hi (hi (n / d))))))) = 0
    rw [show (hi (hi (hi (hi (hi (hi (n / d))))))) = (hi (hi (hi (hi (hi (hi (n / d))))))) from rfl, t5, eT5]
    have := qu5
    unfold U64 at this
    unfold lo hi
    omega
  have f7 : L7 (n / d) = 0 := by
    show lo (hi (hi (hi (hi (hi (hi (hi (n / d)))))))) = 0
    rw [show (hi (hi (hi (hi (hi (hi (hi (n / d)))))))) = (hi (hi (hi (hi (hi (hi (hi (n / d)))))))) from rfl, t5, eT5]
    have := qu5
    unfold U64 at this
    unfold lo hi
    omega
  have u0 := up_step' r 0 hP hR hPR (by omega) hP
  rw [Int.add_zero, ← r0] at u0
  have v1 : (hi R0) = (hi r) * P + L0 r / R := by exact u0.1
  have u1 := up_step' (hi r) (L0 r / R) hP hR hPR u0.2.1 u0.2.2
  have v2 : (hi (hi R0)) = (hi (hi r)) * P + L1 r / R := by rw [v1]; exact u1.1
  have u2 := up_step' (hi (hi r)) (L1 r / R) hP hR hPR u1.2.1 u1.2.2
  have v3 : (hi (hi (hi R0))) = (hi (hi (hi r))) * P + L2 r / R := by rw [v2]; exact u2.1
  have rk : (hi (hi (hi r))) = 0 := by unfold hi; omega
  have ck : L2 r / R = 0 := by have := v3; rw [z0, rk, Int.zero_mul, Int.zero_add] at this; exact this.symm
  have p0 : Go.bits .or .u64 (L0 R0 / 2 ^ s) (IntKind.u64.wrap (L1 R0 * 2 ^ t)) = L0 r := by
    rw [← eP, ← eR, show L1 R0 = lo ((hi r) * P + L0 r / R) by rw [← v1]; rfl, show L0 R0 = lo (r * P + 0) by rw [Int.add_zero, ← r0]; rfl]
    exact down_step r 0 (hi r) hP hR hPR (by omega) hP t eR.symm
  have p1 : Go.bits .or .u64 (L1 R0 / 2 ^ s) (IntKind.u64.wrap (L2 R0 * 2 ^ t)) = L1 r := by
    rw [← eP, ← eR, show L2 R0 = lo ((hi (hi r)) * P + L1 r / R) by rw [← v2]; rfl, show L1 R0 = lo ((hi r) * P + (L0 r / R)) by rw [← v1]; rfl]
    exact down_step (hi r) (L0 r / R) (hi (hi r)) hP hR hPR u0.2.1 u0.2.2 t eR.symm
  have p2 : Go.bits .or .u64 (L2 R0 / 2 ^ s) 0 = L2 r := by
    rw [← eP, show L2 R0 = lo ((hi (hi r)) * P + (L1 r / R)) by rw [← v2]; rfl]
    exact down_last (hi (hi r)) (L1 r / R) hP hR hPR u1.2.1 u1.2.2 ck
  have g3 : L3 r = 0 := by
    show lo (hi (hi (hi r))) = 0
    rw [show (hi (hi (hi r))) = (hi (hi (hi r))) from rfl, rk]
    rfl
  have hh := divide_walk_3 s t n d X V W0 Q0 R0 W1 Q1 R1 W2 Q2 R2 W3 Q3 R3 W4 Q4 R4 W5 Q5 R5 (L0 r) (L1 r) (L2 r) w (Lib.hid hn8) (by rw [show L3 d = 0 by unfold L3 lo hi; omega]; rfl) (beq_eq_false_iff_ne.2 hy) (Lib.hid LEN) (by omega) (by omega) (by omega) (by omega) (by rw [← eP]; exact eX.symm) (by rw [← eP]; exact eV.symm) (Lib.hid (by unfold hi; omega)) (Lib.hid ⟨hV1, hV2⟩) (by rw [eW5]; rfl) (by rw [eW5]; rfl) (by rw [eW5]; rfl) (by rw [eW5]; rfl) (Lib.hid b5) eQ5.symm eR5.symm (by show lo (hi (hi (hi R5))) = 0; rw [z5]; rfl) (by rw [eW4]; exact (put_low (L4_u X)).1.symm) (by show _ = lo (hi W4); rw [eW4, show (hi (L4 X + 18446744073709551616 * R5)) = (hi (L4 X + 18446744073709551616 * R5)) from rfl, (put_low (L4_u X)).2]; rfl) (by show _ = lo (hi (hi W4)); rw [eW4, show (hi (hi (L4 X + 18446744073709551616 * R5))) = (hi (hi (L4 X + 18446744073709551616 * R5))) from rfl, (put_low (L4_u X)).2]; rfl) (by show _ = lo (hi (hi (hi W4))); rw [eW4, show (hi (hi (hi (L4 X + 18446744073709551616 * R5)))) = (hi (hi (hi (L4 X + 18446744073709551616 * R5)))) from rfl, (put_low (L4_u X)).2]; rfl) (Lib.hid b4) eQ4.symm eR4.symm (by show lo (hi (hi (hi R4))) = 0; rw [z4]; rfl) (by rw [eW3]; exact (put_low (L3_u X)).1.symm) (by show _ = lo (hi W3); rw [eW3, show (hi (L3 X + 18446744073709551616 * R4)) = (hi (L3 X + 18446744073709551616 * R4)) from rfl, (put_low (L3_u X)).2]; rfl) (by show _ = lo (hi (hi W3)); rw [eW3, show (hi (hi (L3 X + 18446744073709551616 * R4))) = (hi (hi (L3 X + 18446744073709551616 * R4))) from rfl, (put_low (L3_u X)).2]; rfl) (by show _ = lo (hi (hi (hi W3))); rw [eW3, show (hi (hi (hi (L3 X + 18446744073709551616 * R4)))) = (hi (hi (hi (L3 X + 18446744073709551616 * R4)))) from rfl, (put_low (L3_u X)).2]; rfl) (Lib.hid b3) eQ3.symm eR3.symm (by show lo (hi (hi (hi R3))) = 0; rw [z3]; rfl) (by rw [eW2]; exact (put_low (L2_u X)).1.symm) (by show _ = lo (hi W2); rw [eW2, show (hi (L2 X + 18446744073709551616 * R3)) = (hi (L2 X + 18446744073709551616 * R3)) from rfl, (put_low (L2_u X)).2]; rfl) (by show _ = lo (hi (hi W2)); rw [eW2, show (hi (hi (L2 X + 18446744073709551616 * R3))) = (hi (hi (L2 X + 18446744073709551616 * R3))) from rfl, (put_low (L2_u X)).2]; rfl) (by show _ = lo (hi (hi (hi W2))); rw [eW2, show (hi (hi (hi (L2 X + 18446744073709551616 * R3)))) = (hi (hi (hi (L2 X + 18446744073709551616 * R3)))) from rfl, (put_low (L2_u X)).2]; rfl) (Lib.hid b2) eQ2.symm eR2.symm (by show lo (hi (hi (hi R2))) = 0; rw [z2]; rfl) (by rw [eW1]; exact (put_low (L1_u X)).1.symm) (by show _ = lo (hi W1); rw [eW1, show (hi (L1 X + 18446744073709551616 * R2)) = (hi (L1 X + 18446744073709551616 * R2)) from rfl, (put_low (L1_u X)).2]; rfl) (by show _ = lo (hi (hi W1)); rw [eW1, show (hi (hi (L1 X + 18446744073709551616 * R2))) = (hi (hi (L1 X + 18446744073709551616 * R2))) from rfl, (put_low (L1_u X)).2]; rfl) (by show _ = lo (hi (hi (hi W1))); rw [eW1, show (hi (hi (hi (L1 X + 18446744073709551616 * R2)))) = (hi (hi (hi (L1 X + 18446744073709551616 * R2)))) from rfl, (put_low (L1_u X)).2]; rfl) (Lib.hid b1) eQ1.symm eR1.symm (by show lo (hi (hi (hi R1))) = 0; rw [z1]; rfl) (by rw [eW0]; exact (put_low (L0_u X)).1.symm) (by show _ = lo (hi W0); rw [eW0, show (hi (L0 X + 18446744073709551616 * R1)) = (hi (L0 X + 18446744073709551616 * R1)) from rfl, (put_low (L0_u X)).2]; rfl) (by show _ = lo (hi (hi W0)); rw [eW0, show (hi (hi (L0 X + 18446744073709551616 * R1))) = (hi (hi (L0 X + 18446744073709551616 * R1))) from rfl, (put_low (L0_u X)).2]; rfl) (by show _ = lo (hi (hi (hi W0))); rw [eW0, show (hi (hi (hi (L0 X + 18446744073709551616 * R1)))) = (hi (hi (hi (L0 X + 18446744073709551616 * R1)))) from rfl, (put_low (L0_u X)).2]; rfl) (Lib.hid b0) eQ0.symm eR0.symm (by show lo (hi (hi (hi R0))) = 0; rw [z0]; rfl) p0 p1 p2
  rw [← er, f0, f1, f2, f3, f4, f5, f6, f7, g3]
  exact hh
end Go.Proofs.Ytgjdegahofoalaa.Wide

/- wide.Divide by a number of 4 limbs, as it computes it. -/
namespace Go.Proofs.Ytgjdegahofoalaa.Wide
open Go.RowKit

set_option maxHeartbeats 20000000 in
set_option maxRecDepth 100000 in
theorem divide_walk_4 (s t : Nat) (n d X V W0 Q0 R0 W1 Q1 R1 W2 Q2 R2 W3 Q3 R3 W4 Q4 R4 P0 P1 P2 P3 : Int) (w : World) (hn8 : Hid ((hi (hi (hi (hi (hi (hi (hi (hi n)))))))) = 0))
    (hnz : (L3 d == 0) = false)
    (LEN : Hid (∀ w, Calls Try.prog 38 #[.int .u64 (L3 d)] w fun e w' => e = .returned (.int .i64 (t : Int)) ∧ w = w'))
    (h1 : 64 - (s : Int) = (t : Int)) (h2 : 64 - (t : Int) = (s : Int)) (hs : (s : Int) ≤ 63) (ht : (t : Int) ≤ 64) (hX : n * 2 ^ s = X) (hV : d * 2 ^ s = V) (hVk : Hid ((hi (hi (hi (hi d)))) = 0))
    (vb : Hid (V < 115792089237316195423570985008687907853269984665640564039457584007913129639936 ∧ 115792089237316195423570985008687907853269984665640564039457584007913129639936 ≤ 2 * V))
    (w4_0 : L4 X = L0 W4)
    (w4_1 : L5 X = L1 W4)
    (w4_2 : L6 X = L2 W4)
    (w4_3 : L7 X = L3 W4)
    (w4_4 : L8 X = L4 W4)
    (b4 : Hid (0 ≤ W4 ∧ W4 < V * 18446744073709551616)) (q4 : W4 / V = Q4) (r4 : W4 % V = R4) (z4 : L4 R4 = 0)
    (w3_0 : L3 X = L0 W3)
    (w3_1 : L0 R4 = L1 W3)
    (w3_2 : L1 R4 = L2 W3)
    (w3_3 : L2 R4 = L3 W3)
    (w3_4 : L3 R4 = L4 W3)
    (b3 : Hid (0 ≤ W3 ∧ W3 < V * 18446744073709551616)) (q3 : W3 / V = Q3) (r3 : W3 % V = R3) (z3 : L4 R3 = 0)
    (w2_0 : L2 X = L0 W2)
    (w2_1 : L0 R3 = L1 W2)
    (w2_2 : L1 R3 = L2 W2)
    (w2_3 : L2 R3 = L3 W2)
    (w2_4 : L3 R3 = L4 W2)
    (b2 : Hid (0 ≤ W2 ∧ W2 < V * 18446744073709551616)) (q2 : W2 / V = Q2) (r2 : W2 % V = R2) (z2 : L4 R2 = 0)
    (w1_0 : L1 X = L0 W1)
    (w1_1 : L0 R2 = L1 W1)
    (w1_2 : L1 R2 = L2 W1)
    (w1_3 : L2 R2 = L3 W1)
    (w1_4 : L3 R2 = L4 W1)
    (b1 : Hid (0 ≤ W1 ∧ W1 < V * 18446744073709551616)) (q1 : W1 / V = Q1) (r1 : W1 % V = R1) (z1 : L4 R1 = 0)
    (w0_0 : L0 X = L0 W0)
    (w0_1 : L0 R1 = L1 W0)
    (w0_2 : L1 R1 = L2 W0)
    (w0_3 : L2 R1 = L3 W0)
    (w0_4 : L3 R1 = L4 W0)
    (b0 : Hid (0 ≤ W0 ∧ W0 < V * 18446744073709551616)) (q0 : W0 / V = Q0) (r0 : W0 % V = R0) (z0 : L4 R0 = 0)
    (p0 : Go.bits .or .u64 (L0 R0 / 2 ^ s) (IntKind.u64.wrap (L1 R0 * 2 ^ t)) = P0)
    (p1 : Go.bits .or .u64 (L1 R0 / 2 ^ s) (IntKind.u64.wrap (L2 R0 * 2 ^ t)) = P1)
    (p2 : Go.bits .or .u64 (L2 R0 / 2 ^ s) (IntKind.u64.wrap (L3 R0 * 2 ^ t)) = P2)
    (p3 : Go.bits .or .u64 (L3 R0 / 2 ^ s) (0) = P3) :
    Calls Try.prog 33 #[.agg #[.int .u64 (L0 n), .int .u64 (L1 n), .int .u64 (L2 n), .int .u64 (L3 n), .int .u64 (L4 n), .int .u64 (L5 n), .int .u64 (L6 n), .int .u64 (L7 n)], .agg #[.int .u64 (L0 d), .int .u64 (L1 d), .int .u64 (L2 d), .int .u64 (L3 d)]] w fun e w' => e = .returned (.tuple #[.agg #[.int .u64 Q0, .int .u64 Q1, .int .u64 Q2, .int .u64 Q3, .int .u64 Q4, .int .u64 0, .int .u64 0, .int .u64 0], .agg #[.int .u64 P0, .int .u64 P1, .int .u64 P2, .int .u64 P3], .int .i64 0]) ∧ Below w.heap.size w w' := by
  have wl0 : IntKind.i64.wrap 0 = 0 := by rfl
  have wl1 : IntKind.i64.wrap 1 = 1 := by rfl
  have wl2 : IntKind.i64.wrap 2 = 2 := by rfl
  have wl3 : IntKind.i64.wrap 3 = 3 := by rfl
  have wl4 : IntKind.i64.wrap 4 = 4 := by rfl
  have wl5 : IntKind.i64.wrap 5 = 5 := by rfl
  have wl6 : IntKind.i64.wrap 6 = 6 := by rfl
  have wl7 : IntKind.i64.wrap 7 = 7 := by rfl
  have wl8 : IntKind.i64.wrap 8 = 8 := by rfl
  have wl9 : IntKind.i64.wrap 9 = 9 := by rfl
  have wt : IntKind.i64.wrap (t : Int) = (t : Int) := wrap_i64_nat (by omega)
  have ws : IntKind.i64.wrap (s : Int) = (s : Int) := wrap_i64_nat (by omega)
  go_enter Try.func33, Try.ntmps33
  go_wp2_with fail
  refine wp_loop_rounds 1 ?_
  rw [rounds_succ]
  go_wp2_with fail
  refine (LEN.out _).mono ?_
  rintro e w' ⟨rfl, rfl⟩
  go_wp2_with fail
  go_region_held3 (fun _ => True) (trivial) (first | (go_at_call 39; refine (up_calls_9_8 (w.heap.size + 1 + 1 + 1 + 1) (w.heap.size) s t (n := n) 0 0 0 0 0 0 0 0 0 77 _ (by go_simp) (by omega) h1 hs hn8.out (by go_simp) (by go_simp) (by go_simp) (by go_simp) (by go_simp) (by go_simp) (by go_simp) (by go_simp)).mono ?_; rintro e w' ⟨rfl, m, rfl⟩))
  go_wp2_with fail
  go_region_held3 (fun _ => True) (trivial) (first | (go_at_call 39; refine (up_calls_4_4 (w.heap.size + 1 + 1 + 1 + 1 + 1) (w.heap.size + 1) s t (n := d) 0 0 0 0 23 _ (by go_simp) (by omega) h1 hs hVk.out (by go_simp) (by go_simp) (by go_simp) (by go_simp)).mono ?_; rintro e w' ⟨rfl, m, rfl⟩))
  go_wp2_with fail
  refine wp_loop_rounds 6 ?_
  rw [rounds_succ]
  go_wp2_with fail
  go_region_held3 (fun _ => True) (trivial) (first | (go_at_call 40; refine (step_calls_4 (w.heap.size + 1 + 1 + 1 + 1) 4 (w.heap.size + 1 + 1 + 1 + 1 + 1) 5 4 (U := W4) (V := V) _ (by omega) b4.out.1 b4.out.2 vb.out.1 vb.out.2 (by go_simp) (by go_simp) (by go_simp) (by go_simp) (by go_simp) (by go_simp) (by go_simp) (by go_simp) (by go_simp) (by go_simp) (by go_simp) (by go_simp) (by go_simp) (by go_simp)).mono ?_; rintro e w' ⟨rfl, m, rfl⟩))
  go_wp2_with fail
  rw [rounds_succ]
  go_wp2_with fail
  go_region_held3 (fun _ => True) (trivial) (first | (go_at_call 40; refine (step_calls_4 (w.heap.size + 1 + 1 + 1 + 1) 3 (w.heap.size + 1 + 1 + 1 + 1 + 1) 6 4 (U := W3) (V := V) _ (by omega) b3.out.1 b3.out.2 vb.out.1 vb.out.2 (by go_simp) (by go_simp) (by go_simp) (by go_simp) (by go_simp) (by go_simp) (by go_simp) (by go_simp) (by go_simp) (by go_simp) (by go_simp) (by go_simp) (by go_simp) (by go_simp)).mono ?_; rintro e w' ⟨rfl, m, rfl⟩))
  go_wp2_with fail
  rw [rounds_succ]
  go_wp2_with fail
  go_region_held3 (fun _ => True) (trivial) (first | (go_at_call 40; refine (step_calls_4 (w.heap.size + 1 + 1 + 1 + 1) 2 (w.heap.size + 1 + 1 + 1 + 1 + 1) 7 4 (U := W2) (V := V) _ (by omega) b2.out.1 b2.out.2 vb.out.1 vb.out.2 (by go_simp) (by go_simp) (by go_simp) (by go_simp) (by go_simp) (by go_simp) (by go_simp) (by go_simp) (by go_simp) (by go_simp) (by go_simp) (by go_simp) (by go_simp) (by go_simp)).mono ?_; rintro e w' ⟨rfl, m, rfl⟩))
  go_wp2_with fail
  rw [rounds_succ]
  go_wp2_with fail
  go_region_held3 (fun _ => True) (trivial) (first | (go_at_call 40; refine (step_calls_4 (w.heap.size + 1 + 1 + 1 + 1) 1 (w.heap.size + 1 + 1 + 1 + 1 + 1) 8 4 (U := W1) (V := V) _ (by omega) b1.out.1 b1.out.2 vb.out.1 vb.out.2 (by go_simp) (by go_simp) (by go_simp) (by go_simp) (by go_simp) (by go_simp) (by go_simp) (by go_simp) (by go_simp) (by go_simp) (by go_simp) (by go_simp) (by go_simp) (by go_simp)).mono ?_; rintro e w' ⟨rfl, m, rfl⟩))
  go_wp2_with fail
  rw [rounds_succ]
  go_wp2_with fail
  go_region_held3 (fun _ => True) (trivial) (first | (go_at_call 40; refine (step_calls_4 (w.heap.size + 1 + 1 + 1 + 1) 0 (w.heap.size + 1 + 1 + 1 + 1 + 1) 9 4 (U := W0) (V := V) _ (by omega) b0.out.1 b0.out.2 vb.out.1 vb.out.2 (by go_simp) (by go_simp) (by go_simp) (by go_simp) (by go_simp) (by go_simp) (by go_simp) (by go_simp) (by go_simp) (by go_simp) (by go_simp) (by go_simp) (by go_simp) (by go_simp)).mono ?_; rintro e w' ⟨rfl, m, rfl⟩))
  go_wp2_with fail
  rw [rounds_succ]
  go_wp2_with fail
  refine wp_loop_rounds 5 ?_
  rw [rounds_succ]
  go_wp2_with fail
  go_region_held3 (fun w' => w'.cell? ⟨w.heap.size + 1 + 1 + 1 + 1, 0, none⟩ = some (.int .u64 (L0 R0)) ∧ w'.cell? ⟨w.heap.size + 1 + 1 + 1 + 1, 1, none⟩ = some (.int .u64 (L1 R0))) ((refine ⟨?_, ?_⟩; all_goals go_simp)) (fail)
  go_wp2_with fail
  rw [rounds_succ]
  go_wp2_with fail
  go_region_held3 (fun w' => w'.cell? ⟨w.heap.size + 1 + 1 + 1 + 1, 1, none⟩ = some (.int .u64 (L1 R0)) ∧ w'.cell? ⟨w.heap.size + 1 + 1 + 1 + 1, 2, none⟩ = some (.int .u64 (L2 R0))) ((refine ⟨?_, ?_⟩; all_goals go_simp)) (fail)
  go_wp2_with fail
  rw [rounds_succ]
  go_wp2_with fail
  go_region_held3 (fun w' => w'.cell? ⟨w.heap.size + 1 + 1 + 1 + 1, 2, none⟩ = some (.int .u64 (L2 R0)) ∧ w'.cell? ⟨w.heap.size + 1 + 1 + 1 + 1, 3, none⟩ = some (.int .u64 (L3 R0))) ((refine ⟨?_, ?_⟩; all_goals go_simp)) (fail)
  go_wp2_with fail
  rw [rounds_succ]
  go_wp2_with fail
  go_region_held3 (fun w' => w'.cell? ⟨w.heap.size + 1 + 1 + 1 + 1, 3, none⟩ = some (.int .u64 (L3 R0)) ∧ w'.cell? ⟨w.heap.size + 1 + 1 + 1 + 1, 4, none⟩ = some (.int .u64 0)) ((refine ⟨?_, ?_⟩; all_goals go_simp)) (fail)
  go_wp2_with fail
  rw [rounds_succ]
  go_wp2_with fail
  go_region
  go_wp2_with fail
  refine bodyPost_ret (v := .tuple #[.agg #[.int .u64 Q0, .int .u64 Q1, .int .u64 Q2, .int .u64 Q3, .int .u64 Q4, .int .u64 0, .int .u64 0, .int .u64 0], .agg #[.int .u64 P0, .int .u64 P1, .int .u64 P2, .int .u64 P3], .int .i64 0]) (by simp [results, Try.results33, go_sem]) rfl ⟨rfl, ?_⟩
  repeat (first | exact Below.refl _ _ | assumption | apply bdrewN | apply below_drew1 | apply below_al | (refine below_set (by simp <;> omega) ?_))
end Go.Proofs.Ytgjdegahofoalaa.Wide

/- wide.Divide by a number of 4 limbs: quotient and remainder. -/
namespace Go.Proofs.Ytgjdegahofoalaa.Wide
open Go.RowKit

theorem divide_calls_4 {n d : Int} (hn0 : 0 ≤ n) (hn8 : (hi (hi (hi (hi (hi (hi (hi (hi n)))))))) = 0) (hd0 : 0 ≤ d) (hdk : d < 115792089237316195423570985008687907853269984665640564039457584007913129639936) (hy : ¬ L3 d = 0) (w : World) :
    Calls Try.prog 33 #[.agg #[.int .u64 (L0 n), .int .u64 (L1 n), .int .u64 (L2 n), .int .u64 (L3 n), .int .u64 (L4 n), .int .u64 (L5 n), .int .u64 (L6 n), .int .u64 (L7 n)], .agg #[.int .u64 (L0 d), .int .u64 (L1 d), .int .u64 (L2 d), .int .u64 (L3 d)]] w fun e w' => e = .returned (.tuple #[.agg #[.int .u64 (L0 (n / d)), .int .u64 (L1 (n / d)), .int .u64 (L2 (n / d)), .int .u64 (L3 (n / d)), .int .u64 (L4 (n / d)), .int .u64 (L5 (n / d)), .int .u64 (L6 (n / d)), .int .u64 (L7 (n / d))], .agg #[.int .u64 (L0 (n % d)), .int .u64 (L1 (n % d)), .int .u64 (L2 (n % d)), .int .u64 (L3 (n % d))], .int .i64 0]) ∧ Below w.heap.size w w' := by
  obtain ⟨m, hm⟩ := Int.eq_ofNat_of_zero_le (L3_u d).1
  have hmu : m < 2 ^ 64 := by
    have h64 : (2 : Nat) ^ 64 = 18446744073709551616 := rfl
    have := (L3_u d).2
    rw [h64]; omega
  have hm0 : m ≠ 0 := by rintro rfl; exact hy hm
  obtain ⟨l1, l2, l3⟩ := Limb.lenN_bd hm0
  have l4 := Limb.lenN_le hmu
  obtain ⟨t, ht⟩ : ∃ t, t = Limb.lenN m := ⟨_, rfl⟩
  rw [← ht] at l1 l2 l3 l4
  obtain ⟨s, hs⟩ : ∃ s, s = 64 - t := ⟨_, rfl⟩
  have hP : (0 : Int) < 2 ^ s := Int.pow_pos (by decide)
  have hR : (0 : Int) < 2 ^ t := Int.pow_pos (by decide)
  have hPR : (2 : Int) ^ s * 2 ^ t = 18446744073709551616 := by
    rw [← Int.pow_add, show s + t = 64 by omega]
    rfl
  have LEN : ∀ w, Calls Try.prog 38 #[.int .u64 (L3 d)] w fun e w' => e = .returned (.int .i64 (t : Int)) ∧ w = w' := by
    intro w
    rw [hm, ht]
    exact Limb.len_calls m hmu w
  -- the divisor's highest limb, moved up
  have y1 : (L3 d + 1) * 2 ^ s ≤ 18446744073709551616 := by
    have h1 : L3 d + 1 ≤ 2 ^ t := by rw [hm]; exact_mod_cast l2
    have h2 := Int.mul_le_mul_of_nonneg_right h1 (Int.le_of_lt hP)
    rw [Int.mul_comm (2 ^ t), hPR] at h2
    exact h2
  have y2 : 18446744073709551616 ≤ 2 * (L3 d * 2 ^ s) := by
    have h1 : (2 : Int) ^ t ≤ 2 * L3 d := by
      rw [hm]
      have h3 : 2 ^ t = 2 * 2 ^ (t - 1) := by rw [← Nat.pow_succ', show (t - 1).succ = t by omega]
      have h4 : 2 ^ t ≤ 2 * m := by omega
      exact_mod_cast h4
    have h2 := Int.mul_le_mul_of_nonneg_right h1 (Int.le_of_lt hP)
    rw [Int.mul_comm (2 ^ t), hPR, Int.mul_assoc] at h2
    exact h2
  have hPs : (2 : Int) ^ s ≤ 9223372036854775808 := by
    have h1 : (2 : Nat) ^ 1 ≤ 2 ^ t := Nat.pow_le_pow_right (by decide) l3
    have h2 : (2 : Int) ≤ 2 ^ t := by exact_mod_cast h1
    have h3 : (2 : Int) ^ s * 2 ≤ 2 ^ s * 2 ^ t := Int.mul_le_mul_of_nonneg_left h2 (Int.le_of_lt hP)
    rw [hPR] at h3
    omega
  obtain ⟨P, eP⟩ : ∃ P, P = (2 : Int) ^ s := ⟨_, rfl⟩
  obtain ⟨R, eR⟩ : ∃ R, R = (2 : Int) ^ t := ⟨_, rfl⟩
  rw [← eP] at hP hPR y1 y2 hPs
  rw [← eR] at hR hPR
  have dsp : L3 d * 6277101735386680763835789423207666416102355444464034512896 ≤ d ∧ d < (L3 d + 1) * 6277101735386680763835789423207666416102355444464034512896 := by unfold L3 lo; (try unfold hi); omega
  obtain ⟨V, eV⟩ : ∃ V, V = d * P := ⟨_, rfl⟩
  have hV1 : V < 115792089237316195423570985008687907853269984665640564039457584007913129639936 := by
    have h1 : (d + 1) * P ≤ ((L3 d + 1) * 6277101735386680763835789423207666416102355444464034512896) * P := Int.mul_le_mul_of_nonneg_right (by omega) (by omega)
    have h2 : ((L3 d + 1) * 6277101735386680763835789423207666416102355444464034512896) * P = ((L3 d + 1) * P) * 6277101735386680763835789423207666416102355444464034512896 := Int.mul_right_comm _ _ _
    rw [h2, Int.add_mul d, Int.one_mul] at h1
    have h3 : ((L3 d + 1) * P) * 6277101735386680763835789423207666416102355444464034512896 ≤ 18446744073709551616 * 6277101735386680763835789423207666416102355444464034512896 := Int.mul_le_mul_of_nonneg_right y1 (by decide)
    omega
  have hV2 : 115792089237316195423570985008687907853269984665640564039457584007913129639936 ≤ 2 * V := by
    have h1 : (L3 d * 6277101735386680763835789423207666416102355444464034512896) * P ≤ d * P := Int.mul_le_mul_of_nonneg_right dsp.1 (by omega)
    have h2 : (L3 d * 6277101735386680763835789423207666416102355444464034512896) * P = (L3 d * P) * 6277101735386680763835789423207666416102355444464034512896 := Int.mul_right_comm _ _ _
    rw [h2] at h1
    have h3 : 18446744073709551616 * 6277101735386680763835789423207666416102355444464034512896 ≤ (2 * (L3 d * P)) * 6277101735386680763835789423207666416102355444464034512896 := Int.mul_le_mul_of_nonneg_right y2 (by decide)
    rw [Int.mul_assoc 2] at h3
    omega
  have hV0 : 0 < V := by omega
  have hdp : 0 < d := by
    by_cases hd : 0 < d
    · exact hd
    · have : d = 0 := by omega
      rw [this, Int.zero_mul] at eV
      omega
  obtain ⟨X, eX⟩ : ∃ X, X = n * P := ⟨_, rfl⟩
  have hX0 : 0 ≤ X := by rw [eX]; exact Int.mul_nonneg hn0 (by omega)
  have hXu : X < 13407807929942597099574024998205846127479365820592393377723561443721764030073546976801874298166903427690031858186486050853753882811946569946433649006084096 * P := by
    rw [eX]
    exact Int.mul_lt_mul_of_pos_right (by unfold hi at hn8; omega) hP
  have x1 : 0 ≤ (hi X) ∧ (hi X) < 726838724295606890549323807888004534353641360687318060281490199180639288113397923326191050713763565560762521606266177933534601628614656 * P := by unfold hi; omega
  have x2 : 0 ≤ (hi (hi X)) ∧ (hi (hi X)) < 39402006196394479212279040100143613805079739270465446667948293404245721771497210611414266254884915640806627990306816 * P := by have := x1; show 0 ≤ (hi X) / 18446744073709551616 ∧ (hi X) / 18446744073709551616 < _; omega
  have x3 : 0 ≤ (hi (hi (hi X))) ∧ (hi (hi (hi X))) < 2135987035920910082395021706169552114602704522356652769947041607822219725780640550022962086936576 * P := by have := x2; show 0 ≤ (hi (hi X)) / 18446744073709551616 ∧ (hi (hi X)) / 18446744073709551616 < _; omega
  have x4 : 0 ≤ (hi (hi (hi (hi X)))) ∧ (hi (hi (hi (hi X)))) < 115792089237316195423570985008687907853269984665640564039457584007913129639936 * P := by have := x3; show 0 ≤ (hi (hi (hi X))) / 18446744073709551616 ∧ (hi (hi (hi X))) / 18446744073709551616 < _; omega
  obtain ⟨W4, eW4⟩ : ∃ W, W = (hi (hi (hi (hi X)))) := ⟨_, rfl⟩
  obtain ⟨Q4, eQ4⟩ : ∃ Q, Q = W4 / V := ⟨_, rfl⟩
  obtain ⟨R4, eR4⟩ : ∃ R, R = W4 % V := ⟨_, rfl⟩
  have b4 : 0 ≤ W4 ∧ W4 < V * 18446744073709551616 := by rw [eW4]; omega
  have ra4 : 0 ≤ R4 := by rw [eR4]; exact Int.emod_nonneg _ (by omega)
  have rb4 : R4 < V := by rw [eR4]; exact Int.emod_lt_of_pos _ hV0
  have qs4 : V * Q4 + R4 = W4 := by rw [eQ4, eR4]; exact Int.mul_ediv_add_emod _ _
  have qu4 : U64 Q4 := ⟨by rw [eQ4]; exact Int.ediv_nonneg b4.1 (by omega), by rw [eQ4, Int.ediv_lt_iff_lt_mul hV0, Int.mul_comm]; exact b4.2⟩
  have z4 : (hi (hi (hi (hi R4)))) = 0 := by unfold hi; omega
  obtain ⟨T4, eT4⟩ : ∃ T, T = Q4 := ⟨_, rfl⟩
  have S4 : (hi (hi (hi (hi X)))) = T4 * V + R4 := by rw [← eW4, eT4, Int.mul_comm]; exact qs4.symm
  obtain ⟨W3, eW3⟩ : ∃ W, W = L3 X + 18446744073709551616 * R4 := ⟨_, rfl⟩
  obtain ⟨Q3, eQ3⟩ : ∃ Q, Q = W3 / V := ⟨_, rfl⟩
  obtain ⟨R3, eR3⟩ : ∃ R, R = W3 % V := ⟨_, rfl⟩
  have b3 : 0 ≤ W3 ∧ W3 < V * 18446744073709551616 := by have h1 := L3_u X; unfold U64 at h1; rw [eW3]; omega
  have ra3 : 0 ≤ R3 := by rw [eR3]; exact Int.emod_nonneg _ (by omega)
  have rb3 : R3 < V := by rw [eR3]; exact Int.emod_lt_of_pos _ hV0
  have qs3 : V * Q3 + R3 = W3 := by rw [eQ3, eR3]; exact Int.mul_ediv_add_emod _ _
  have qu3 : U64 Q3 := ⟨by rw [eQ3]; exact Int.ediv_nonneg b3.1 (by omega), by rw [eQ3, Int.ediv_lt_iff_lt_mul hV0, Int.mul_comm]; exact b3.2⟩
  have z3 : (hi (hi (hi (hi R3)))) = 0 := by unfold hi; omega
  obtain ⟨T3, eT3⟩ : ∃ T, T = Q3 + 18446744073709551616 * T4 := ⟨_, rfl⟩
  have S3 : (hi (hi (hi X))) = T3 * V + R3 := by rw [eT3]; exact long_step (lo_hi (hi (hi (hi X)))).symm S4 eW3 qs3
  obtain ⟨W2, eW2⟩ : ∃ W, W = L2 X + 18446744073709551616 * R3 := ⟨_, rfl⟩
  obtain ⟨Q2, eQ2⟩ : ∃ Q, Q = W2 / V := ⟨_, rfl⟩
  obtain ⟨R2, eR2⟩ : ∃ R, R = W2 % V := ⟨_, rfl⟩
  have b2 : 0 ≤ W2 ∧ W2 < V * 18446744073709551616 := by have h1 := L2_u X; unfold U64 at h1; rw [eW2]; omega
  have ra2 : 0 ≤ R2 := by rw [eR2]; exact Int.emod_nonneg _ (by omega)
  have rb2 : R2 < V := by rw [eR2]; exact Int.emod_lt_of_pos _ hV0
  have qs2 : V * Q2 + R2 = W2 := by rw [eQ2, eR2]; exact Int.mul_ediv_add_emod _ _
  have qu2 : U64 Q2 := ⟨by rw [eQ2]; exact Int.ediv_nonneg b2.1 (by omega), by rw [eQ2, Int.ediv_lt_iff_lt_mul hV0, Int.mul_comm]; exact b2.2⟩
  have z2 : (hi (hi (hi (hi R2)))) = 0 := by unfold hi; omega
  obtain ⟨T2, eT2⟩ : ∃ T, T = Q2 + 18446744073709551616 * T3 := ⟨_, rfl⟩
  have S2 : (hi (hi X)) = T2 * V + R2 := by rw [eT2]; exact long_step (lo_hi (hi (hi X))).symm S3 eW2 qs2
  obtain ⟨W1, eW1⟩ : ∃ W, W = L1 X + 18446744073709551616 * R2 := ⟨_, rfl⟩
  obtain ⟨Q1, eQ1⟩ : ∃ Q, Q = W1 / V := ⟨_, rfl⟩
  obtain ⟨R1, eR1⟩ : ∃ R, R = W1 % V := ⟨_, rfl⟩
  have b1 : 0 ≤ W1 ∧ W1 < V * 18446744073709551616 := by have h1 := L1_u X; unfold U64 at h1; rw [eW1]; omega
  have ra1 : 0 ≤ R1 := by rw [eR1]; exact Int.emod_nonneg _ (by omega)
  have rb1 : R1 < V := by rw [eR1]; exact Int.emod_lt_of_pos _ hV0
  have qs1 : V * Q1 + R1 = W1 := by rw [eQ1, eR1]; exact Int.mul_ediv_add_emod _ _
  have qu1 : U64 Q1 := ⟨by rw [eQ1]; exact Int.ediv_nonneg b1.1 (by omega), by rw [eQ1, Int.ediv_lt_iff_lt_mul hV0, Int.mul_comm]; exact b1.2⟩
  have z1 : (hi (hi (hi (hi R1)))) = 0 := by unfold hi; omega
  obtain ⟨T1, eT1⟩ : ∃ T, T = Q1 + 18446744073709551616 * T2 := ⟨_, rfl⟩
  have S1 : (hi X) = T1 * V + R1 := by rw [eT1]; exact long_step (lo_hi (hi X)).symm S2 eW1 qs1
  obtain ⟨W0, eW0⟩ : ∃ W, W = L0 X + 18446744073709551616 * R1 := ⟨_, rfl⟩
  obtain ⟨Q0, eQ0⟩ : ∃ Q, Q = W0 / V := ⟨_, rfl⟩
  obtain ⟨R0, eR0⟩ : ∃ R, R = W0 % V := ⟨_, rfl⟩
  have b0 : 0 ≤ W0 ∧ W0 < V * 18446744073709551616 := by have h1 := L0_u X; unfold U64 at h1; rw [eW0]; omega
  have ra0 : 0 ≤ R0 := by rw [eR0]; exact Int.emod_nonneg _ (by omega)
  have rb0 : R0 < V := by rw [eR0]; exact Int.emod_lt_of_pos _ hV0
  have qs0 : V * Q0 + R0 = W0 := by rw [eQ0, eR0]; exact Int.mul_ediv_add_emod _ _
  have qu0 : U64 Q0 := ⟨by rw [eQ0]; exact Int.ediv_nonneg b0.1 (by omega), by rw [eQ0, Int.ediv_lt_iff_lt_mul hV0, Int.mul_comm]; exact b0.2⟩
  have z0 : (hi (hi (hi (hi R0)))) = 0 := by unfold hi; omega
  obtain ⟨T0, eT0⟩ : ∃ T, T = Q0 + 18446744073709551616 * T1 := ⟨_, rfl⟩
  have S0 : X = T0 * V + R0 := by rw [eT0]; exact long_step (lo_hi X).symm S1 eW0 qs0
  obtain ⟨d1, d2⟩ := div_shift' hP hdp (by rw [← eX, ← eV]; exact S0) ra0 (by rw [← eV]; exact rb0)
  obtain ⟨r, er⟩ : ∃ r, r = n % d := ⟨_, rfl⟩
  have r0 : R0 = r * P := by rw [er]; exact d2
  have rn : 0 ≤ r := by rw [er]; exact Int.emod_nonneg _ (by omega)
  have rd : r < d := by rw [er]; exact Int.emod_lt_of_pos _ hdp
  have t0 : n / d = T0 := d1
  have t1 : (hi (n / d)) = T1 := by rw [t0, eT0]; exact (put_low qu0).2
  have t2 : (hi (hi (n / d))) = T2 := by rw [t1, eT1]; exact (put_low qu1).2
  have t3 : (hi (hi (hi (n / d)))) = T3 := by rw [t2, eT2]; exact (put_low qu2).2
  have t4 : (hi (hi (hi (hi (n / d))))) = T4 := by rw [t3, eT3]; exact (put_low qu3).2
  have f0 : L0 (n / d) = Q0 := by show lo (n / d) = _; rw [t0, eT0]; exact (put_low qu0).1
  have f1 : L1 (n / d) = Q1 := by show lo (hi (n / d)) = _; rw [t1, eT1]; exact (put_low qu1).1
  have f2 : L2 (n / d) = Q2 := by show lo (hi (hi (n / d))) = _; rw [t2, eT2]; exact (put_low qu2).1
  have f3 : L3 (n / d) = Q3 := by show lo (hi (hi (hi (n / d)))) = _; rw [t3, eT3]; exact (put_low qu3).1
  have f4 : L4 (n / d) = Q4 := by show lo (hi (hi (hi (hi (n / d))))) = _; rw [t4, eT4]; exact lo_id qu4
  have f5 : L5 (n / d) = 0 := by
    show lo (hi (hi (hi (hi (hi (n / d)))))) = 0
    rw [show (hi (hi (hi (hi (hi (n / d)))))) = (hi (hi (hi (hi (hi (n / d)))))) from rfl, t4, eT4]
    have := qu4
    unfold U64 at this
    unfold lo hi
    omega
  have f6 : L6 (n / d) = 0 := by
    show lo (hi (hi (hi (hi (hi (hi (n / d))))))) = 0
    rw [show (hi (hi (hi (hi (hi (hi (n / d))))))) = (hi (hi (hi (hi (hi (hi (n / d))))))) from rfl, t4, eT4]
    have := qu4
    unfold U64 at this
    unfold lo hi
    omega
  have f7 : L7 (n / d) = 0 := by
    show lo (hi (hi (hi (hi (hi (hi (hi (n / d)))))))) = 0
    rw [show (hi (hi (hi (hi (hi (hi (hi (n / d)))))))) = (hi (hi (hi (hi (hi (hi (hi (n / d)))))))) from rfl, t4, eT4]
    have := qu4
    unfold U64 at this
    unfold lo hi
    omega
  have u0 := up_step' r 0 hP hR hPR (by omega) hP
  rw [Int.add_zero, ← r0] at u0
  have v1 : (hi R0) = (hi r) * P + L0 r / R := by exact u0.1
  have u1 := up_step' (hi r) (L0 r / R) hP hR hPR u0.2.1 u0.2.2
  have v2 : (hi (hi R0)) = (hi (hi r)) * P + L1 r / R := by rw [v1]; exact u1.1
  have u2 := up_step' (hi (hi r)) (L1 r / R) hP hR hPR u1.2.1 u1.2.2
  have v3 : (hi (hi (hi R0))) = (hi (hi (hi r))) * P + L2 r / R := by rw [v2]; exact u2.1
  have u3 := up_step' (hi (hi (hi r))) (L2 r / R) hP hR hPR u2.2.1 u2.2.2
  have v4 : (hi (hi (hi (hi R0)))) = (hi (hi (hi (hi r)))) * P + L3 r / R := by rw [v3]; exact u3.1
  have rk : (hi (hi (hi (hi r)))) = 0 := by unfold hi; omega
  have ck : L3 r / R = 0 := by have := v4; rw [z0, rk, Int.zero_mul, Int.zero_add] at this; exact this.symm
  have p0 : Go.bits .or .u64 (L0 R0 / 2 ^ s) (IntKind.u64.wrap (L1 R0 * 2 ^ t)) = L0 r := by
    rw [← eP, ← eR, show L1 R0 = lo ((hi r) * P + L0 r / R) by rw [← v1]; rfl, show L0 R0 = lo (r * P + 0) by rw [Int.add_zero, ← r0]; rfl]
    exact down_step r 0 (hi r) hP hR hPR (by omega) hP t eR.symm
  have p1 : Go.bits .or .u64 (L1 R0 / 2 ^ s) (IntKind.u64.wrap (L2 R0 * 2 ^ t)) = L1 r := by
    rw [← eP, ← eR, show L2 R0 = lo ((hi (hi r)) * P + L1 r / R) by rw [← v2]; rfl, show L1 R0 = lo ((hi r) * P + (L0 r / R)) by rw [← v1]; rfl]
    exact down_step (hi r) (L0 r / R) (hi (hi r)) hP hR hPR u0.2.1 u0.2.2 t eR.symm
  have p2 : Go.bits .or .u64 (L2 R0 / 2 ^ s) (IntKind.u64.wrap (L3 R0 * 2 ^ t)) = L2 r := by
    rw [← eP, ← eR, show L3 R0 = lo ((hi (hi (hi r))) * P + L2 r / R) by rw [← v3]; rfl, show L2 R0 = lo ((hi (hi r)) * P + (L1 r / R)) by rw [← v2]; rfl]
    exact down_step (hi (hi r)) (L1 r / R) (hi (hi (hi r))) hP hR hPR u1.2.1 u1.2.2 t eR.symm
  have p3 : Go.bits .or .u64 (L3 R0 / 2 ^ s) 0 = L3 r := by
    rw [← eP, show L3 R0 = lo ((hi (hi (hi r))) * P + (L2 r / R)) by rw [← v3]; rfl]
    exact down_last (hi (hi (hi r))) (L2 r / R) hP hR hPR u2.2.1 u2.2.2 ck
  have hh := divide_walk_4 s t n d X V W0 Q0 R0 W1 Q1 R1 W2 Q2 R2 W3 Q3 R3 W4 Q4 R4 (L0 r) (L1 r) (L2 r) (L3 r) w (Lib.hid hn8) (beq_eq_false_iff_ne.2 hy) (Lib.hid LEN) (by omega) (by omega) (by omega) (by omega) (by rw [← eP]; exact eX.symm) (by rw [← eP]; exact eV.symm) (Lib.hid (by unfold hi; omega)) (Lib.hid ⟨hV1, hV2⟩) (by rw [eW4]; rfl) (by rw [eW4]; rfl) (by rw [eW4]; rfl) (by rw [eW4]; rfl) (by rw [eW4]; rfl) (Lib.hid b4) eQ4.symm eR4.symm (by show lo (hi (hi (hi (hi R4)))) = 0; rw [z4]; rfl) (by rw [eW3]; exact (put_low (L3_u X)).1.symm) (by show _ = lo (hi W3); rw [eW3, show (hi (L3 X + 18446744073709551616 * R4)) = (hi (L3 X + 18446744073709551616 * R4)) from rfl, (put_low (L3_u X)).2]; rfl) (by show _ = lo (hi (hi W3)); rw [eW3, show (hi (hi (L3 X + 18446744073709551616 * R4))) = (hi (hi (L3 X + 18446744073709551616 * R4))) from rfl, (put_low (L3_u X)).2]; rfl) (by show _ = lo (hi (hi (hi W3))); rw [eW3, show (hi (hi (hi (L3 X + 18446744073709551616 * R4)))) = (hi (hi (hi (L3 X + 18446744073709551616 * R4)))) from rfl, (put_low (L3_u X)).2]; rfl) (by show _ = lo (hi (hi (hi (hi W3)))); rw [eW3, show (hi (hi (hi (hi (L3 X + 18446744073709551616 * R4))))) = (hi (hi (hi (hi (L3 X + 18446744073709551616 * R4))))) from rfl, (put_low (L3_u X)).2]; rfl) (Lib.hid b3) eQ3.symm eR3.symm (by show lo (hi (hi (hi (hi R3)))) = 0; rw [z3]; rfl) (by rw [eW2]; exact (put_low (L2_u X)).1.symm) (by show _ = lo (hi W2); rw [eW2, show (hi (L2 X + 18446744073709551616 * R3)) = (hi (L2 X + 18446744073709551616 * R3)) from rfl, (put_low (L2_u X)).2]; rfl) (by show _ = lo (hi (hi W2)); rw [eW2, show (hi (hi (L2 X + 18446744073709551616 * R3))) = (hi (hi (L2 X + 18446744073709551616 * R3))) from rfl, (put_low (L2_u X)).2]; rfl) (by show _ = lo (hi (hi (hi W2))); rw [eW2, show (hi (hi (hi (L2 X + 18446744073709551616 * R3)))) = (hi (hi (hi (L2 X + 18446744073709551616 * R3)))) from rfl, (put_low (L2_u X)).2]; rfl) (by show _ = lo (hi (hi (hi (hi W2)))); rw [eW2, show (hi (hi (hi (hi (L2 X + 18446744073709551616 * R3))))) = (hi (hi (hi (hi (L2 X + 18446744073709551616 * R3))))) from rfl, (put_low (L2_u X)).2]; rfl) (Lib.hid b2) eQ2.symm eR2.symm (by show lo (hi (hi (hi (hi R2)))) = 0; rw [z2]; rfl) (by rw [eW1]; exact (put_low (L1_u X)).1.symm) (by show _ = lo (hi W1); rw [eW1, show (hi (L1 X + 18446744073709551616 * R2)) = (hi (L1 X + 18446744073709551616 * R2)) from rfl, (put_low (L1_u X)).2]; rfl) (by show _ = lo (hi (hi W1)); rw [eW1, show (hi (hi (L1 X + 18446744073709551616 * R2))) = (hi (hi (L1 X + 18446744073709551616 * R2))) from rfl, (put_low (L1_u X)).2]; rfl) (by show _ = lo (hi (hi (hi W1))); rw [eW1, show (hi (hi (hi (L1 X + 18446744073709551616 * R2)))) = (hi (hi (hi (L1 X + 18446744073709551616 * R2)))) from rfl, (put_low (L1_u X)).2]; rfl) (by show _ = lo (hi (hi (hi (hi W1)))); rw [eW1, show (hi (hi (hi (hi (L1 X + 18446744073709551616 * R2))))) = (hi (hi (hi (hi (L1 X + 18446744073709551616 * R2))))) from rfl, (put_low (L1_u X)).2]; rfl) (Lib.hid b1) eQ1.symm eR1.symm (by show lo (hi (hi (hi (hi R1)))) = 0; rw [z1]; rfl) (by rw [eW0]; exact (put_low (L0_u X)).1.symm) (by show _ = lo (hi W0); rw [eW0, show (hi (L0 X + 18446744073709551616 * R1)) = (hi (L0 X + 18446744073709551616 * R1)) from rfl, (put_low (L0_u X)).2]; rfl) (by show _ = lo (hi (hi W0)); rw [eW0, show (hi (hi (L0 X + 18446744073709551616 * R1))) = (hi (hi (L0 X + 18446744073709551616 * R1))) from rfl, (put_low (L0_u X)).2]; rfl) (by show _ = lo (hi (hi (hi W0))); rw [eW0, show (hi (hi (hi (L0 X + 18446744073709551616 * R1)))) = (hi (hi (hi (L0 X + 18446744073709551616 * R1)))) from rfl, (put_low (L0_u X)).2]; rfl) (by show _ = lo (hi (hi (hi (hi W0)))); rw [eW0, show (hi (hi (hi (hi (L0 X + 18446744073709551616 * R1))))) = (hi (hi (hi (hi (L0 X + 18446744073709551616 * R1))))) from rfl, (put_low (L0_u X)).2]; rfl) (Lib.hid b0) eQ0.symm eR0.symm (by show lo (hi (hi (hi (hi R0)))) = 0; rw [z0]; rfl) p0 p1 p2 p3
  rw [← er, f0, f1, f2, f3, f4, f5, f6, f7]
  exact hh
end Go.Proofs.Ytgjdegahofoalaa.Wide

/- wide.Divide by any number that is not 0: quotient and remainder. -/
namespace Go.Proofs.Ytgjdegahofoalaa.Wide
open Go.RowKit
theorem divide_all (n d : Int) (w : World) (hn0 : 0 ≤ n) (hn8 : hi (hi (hi (hi (hi (hi (hi (hi n))))))) = 0) (ud : U256 d) (hd : 0 < d) :
    Calls Try.prog 33 #[.agg #[.int .u64 (L0 n), .int .u64 (L1 n), .int .u64 (L2 n), .int .u64 (L3 n), .int .u64 (L4 n), .int .u64 (L5 n), .int .u64 (L6 n), .int .u64 (L7 n)], .agg #[.int .u64 (L0 d), .int .u64 (L1 d), .int .u64 (L2 d), .int .u64 (L3 d)]] w
      fun e w' => e = .returned (.tuple #[.agg #[.int .u64 (L0 (n / d)), .int .u64 (L1 (n / d)), .int .u64 (L2 (n / d)), .int .u64 (L3 (n / d)), .int .u64 (L4 (n / d)), .int .u64 (L5 (n / d)), .int .u64 (L6 (n / d)), .int .u64 (L7 (n / d))],
        .agg #[.int .u64 (L0 (n % d)), .int .u64 (L1 (n % d)), .int .u64 (L2 (n % d)), .int .u64 (L3 (n % d))], .int .i64 0]) ∧ Below w.heap.size w w' := by
  have hu := ud.2
  by_cases h3 : L3 d = 0
  · by_cases h2 : L2 d = 0
    · by_cases h1 : L1 d = 0
      · exact divide_calls_1 hn0 hn8 ud.1 (by unfold L1 L2 L3 lo hi at *; omega) (by intro h0; unfold L0 L1 L2 L3 lo hi at *; omega) w
      · exact divide_calls_2 hn0 hn8 ud.1 (by unfold L2 L3 lo hi at *; omega) h1 w
    · exact divide_calls_3 hn0 hn8 ud.1 (by unfold L3 lo hi at *; omega) h2 w
  · exact divide_calls_4 hn0 hn8 ud.1 hu h3 w
end Go.Proofs.Ytgjdegahofoalaa.Wide
