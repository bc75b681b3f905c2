/- limb's functions: what they compute, as they compute it (numbers wrapped as Go wraps them). -/
import Derived.Test.YtgjdegahofoalaaBase
import Derived.Test.YtgjdegahofoalaaNum
set_option linter.unusedVariables false
set_option linter.unusedSimpArgs false
namespace Go.Proofs.Ytgjdegahofoalaa.Limb
open Go.RowKit

set_option maxHeartbeats 2000000 in
theorem bit_true (w : World) : Calls Try.prog 31 #[.bool true] w fun e w' => e = .returned (.int .u64 1) ∧ w = w' := by
  go_enter Try.func31, Try.ntmps31
  go_wp2
  go_ret
  exact ⟨rfl, rfl⟩
set_option maxHeartbeats 2000000 in
theorem bit_false (w : World) : Calls Try.prog 31 #[.bool false] w fun e w' => e = .returned (.int .u64 0) ∧ w = w' := by
  go_enter Try.func31, Try.ntmps31
  go_wp2
  go_ret
  exact ⟨rfl, rfl⟩
theorem bit_any (b : Bool) (w : World) : Calls Try.prog 31 #[.bool b] w fun e w' => e = .returned (.int .u64 (bitOf b)) ∧ w = w' := by
  cases b with
  | true => exact bit_true w
  | false => exact bit_false w

set_option maxHeartbeats 2000000 in
theorem mul_walk (a b a1 a0 b1 b0 low mid other : Int) (w : World) (h1 : IntKind.u64.wrap (a.tdiv 4294967296) = a1) (h2 : a.tmod 4294967296 = a0) (h3 : IntKind.u64.wrap (b.tdiv 4294967296) = b1) (h4 : b.tmod 4294967296 = b0)
    (h5 : IntKind.u64.wrap (a0 * b0) = low) (h6 : IntKind.u64.wrap (IntKind.u64.wrap (a1 * b0) + IntKind.u64.wrap (low.tdiv 4294967296)) = mid) (h7 : IntKind.u64.wrap (IntKind.u64.wrap (a0 * b1) + mid.tmod 4294967296) = other) :
    Calls Try.prog 43 #[.int .u64 a, .int .u64 b] w fun e w' => e = .returned (.tuple #[.int .u64 (IntKind.u64.wrap (IntKind.u64.wrap (IntKind.u64.wrap (a1 * b1) + IntKind.u64.wrap (mid.tdiv 4294967296)) + IntKind.u64.wrap (other.tdiv 4294967296))), .int .u64 (IntKind.u64.wrap (a * b))]) ∧ w = w' := by
  go_enter Try.func43, Try.ntmps43
  go_wp2
  go_ret2
  exact ⟨rfl, rfl⟩


set_option maxHeartbeats 2000000 in
theorem add_walk0 (a b c : Int) (w : World) (hc : (c != 0) = false) : Calls Try.prog 16 #[.int .u64 a, .int .u64 b, .int .u64 c] w fun e w' => e = .returned (.tuple #[.int .u64 (IntKind.u64.wrap (a + b)), .int .u64 (bitOf (decide (IntKind.u64.wrap (a + b) < a)))]) ∧ w = w' := by
  go_enter Try.func16, Try.ntmps16
  go_wp2_with (go_at_call 31; refine (bit_any _ _).mono ?_; rintro e w' ⟨rfl, rfl⟩)
  go_ret2
  exact ⟨rfl, rfl⟩

set_option maxHeartbeats 2000000 in
theorem add_walk1 (a b c : Int) (w : World) (hc : (c != 0) = true) : Calls Try.prog 16 #[.int .u64 a, .int .u64 b, .int .u64 c] w fun e w' => e = .returned (.tuple #[.int .u64 (IntKind.u64.wrap (IntKind.u64.wrap (a + b) + 1)), .int .u64 (Go.bits .or .u64 (bitOf (decide (IntKind.u64.wrap (a + b) < a))) (bitOf (IntKind.u64.wrap (IntKind.u64.wrap (a + b) + 1) == 0)))]) ∧ w = w' := by
  go_enter Try.func16, Try.ntmps16
  go_wp2_with (go_at_call 31; refine (bit_any _ _).mono ?_; rintro e w' ⟨rfl, rfl⟩)
  go_ret2
  exact ⟨rfl, rfl⟩

set_option maxHeartbeats 2000000 in
theorem sub_walk0 (a b c : Int) (w : World) (hc : (c != 0) = false) : Calls Try.prog 20 #[.int .u64 a, .int .u64 b, .int .u64 c] w fun e w' => e = .returned (.tuple #[.int .u64 (IntKind.u64.wrap (a - b)), .int .u64 (bitOf (decide (a < b)))]) ∧ w = w' := by
  go_enter Try.func20, Try.ntmps20
  go_wp2_with (go_at_call 31; refine (bit_any _ _).mono ?_; rintro e w' ⟨rfl, rfl⟩)
  go_ret2
  exact ⟨rfl, rfl⟩

set_option maxHeartbeats 2000000 in
theorem sub_walk1 (a b c : Int) (w : World) (hc : (c != 0) = true) : Calls Try.prog 20 #[.int .u64 a, .int .u64 b, .int .u64 c] w fun e w' => e = .returned (.tuple #[.int .u64 (IntKind.u64.wrap (IntKind.u64.wrap (a - b) - 1)), .int .u64 (Go.bits .or .u64 (bitOf (decide (a < b))) (bitOf (IntKind.u64.wrap (a - b) == 0)))]) ∧ w = w' := by
  go_enter Try.func20, Try.ntmps20
  go_wp2_with (go_at_call 31; refine (bit_any _ _).mono ?_; rintro e w' ⟨rfl, rfl⟩)
  go_ret2
  exact ⟨rfl, rfl⟩

set_option maxHeartbeats 4000000 in
theorem digit_walk0b (hi below y y1 y0 : Int) (w : World) (hy1 : IntKind.u64.wrap (y.tdiv 4294967296) = y1) (hy0 : y.tmod 4294967296 = y0) (hne : ¬ (y1 = 0)) (q0 l0 m0 s0 : Int) (hq0 : IntKind.u64.wrap (hi.tdiv y1) = q0) (hl0 : hi.tmod y1 = l0) (hm0 : IntKind.u64.wrap (q0 * y0) = m0) (hs0 : IntKind.u64.wrap (IntKind.u64.wrap (l0 * 4294967296) + below) = s0) (ht0 : ¬ (4294967296 ≤ q0 ∨ s0 < m0)) :
    Calls Try.prog 44 #[.int .u64 hi, .int .u64 below, .int .u64 y] w fun e w' => e = .returned (.tuple #[.int .u64 q0, .int .u64 (IntKind.u64.wrap (IntKind.u64.wrap (IntKind.u64.wrap (hi * 4294967296) + below) - IntKind.u64.wrap (q0 * y)))]) ∧ ∃ n, w' = w.drewN n := by
  go_enter Try.func44, Try.ntmps44
  go_wp2_with fail
  refine wp_scope_rounds 0 3 rfl ?_
  go_wp2_with fail
  go_region
  go_wp2_with fail
  go_step3
  go_wp2_with fail
  all_goals (simp only [Exit.jump]; go_ret2; exact ⟨rfl, 1, rfl⟩)


set_option maxHeartbeats 4000000 in
theorem digit_walk1a (hi below y y1 y0 : Int) (w : World) (hy1 : IntKind.u64.wrap (y.tdiv 4294967296) = y1) (hy0 : y.tmod 4294967296 = y0) (hne : ¬ (y1 = 0)) (q0 l0 m0 s0 : Int) (q1 l1 m1 s1 : Int) (hq0 : IntKind.u64.wrap (hi.tdiv y1) = q0) (hl0 : hi.tmod y1 = l0) (hm0 : IntKind.u64.wrap (q0 * y0) = m0) (hs0 : IntKind.u64.wrap (IntKind.u64.wrap (l0 * 4294967296) + below) = s0) (ht0 : 4294967296 ≤ q0 ∨ s0 < m0) (hq1 : IntKind.u64.wrap (q0 - 1) = q1) (hl1 : IntKind.u64.wrap (l0 + y1) = l1) (hh1 : 4294967296 ≤ l1) :
    Calls Try.prog 44 #[.int .u64 hi, .int .u64 below, .int .u64 y] w fun e w' => e = .returned (.tuple #[.int .u64 q1, .int .u64 (IntKind.u64.wrap (IntKind.u64.wrap (IntKind.u64.wrap (hi * 4294967296) + below) - IntKind.u64.wrap (q1 * y)))]) ∧ ∃ n, w' = w.drewN n := by
  go_enter Try.func44, Try.ntmps44
  go_wp2_with fail
  refine wp_scope_rounds 0 3 rfl ?_
  go_wp2_with fail
  go_region
  go_wp2_with fail
  go_step3
  go_wp2_with fail
  all_goals (simp only [Exit.jump]; go_ret2; exact ⟨rfl, 1, rfl⟩)


set_option maxHeartbeats 4000000 in
theorem digit_walk1b (hi below y y1 y0 : Int) (w : World) (hy1 : IntKind.u64.wrap (y.tdiv 4294967296) = y1) (hy0 : y.tmod 4294967296 = y0) (hne : ¬ (y1 = 0)) (q0 l0 m0 s0 : Int) (q1 l1 m1 s1 : Int) (hq0 : IntKind.u64.wrap (hi.tdiv y1) = q0) (hl0 : hi.tmod y1 = l0) (hm0 : IntKind.u64.wrap (q0 * y0) = m0) (hs0 : IntKind.u64.wrap (IntKind.u64.wrap (l0 * 4294967296) + below) = s0) (ht0 : 4294967296 ≤ q0 ∨ s0 < m0) (hq1 : IntKind.u64.wrap (q0 - 1) = q1) (hl1 : IntKind.u64.wrap (l0 + y1) = l1) (hm1 : IntKind.u64.wrap (q1 * y0) = m1) (hs1 : IntKind.u64.wrap (IntKind.u64.wrap (l1 * 4294967296) + below) = s1) (ht1 : ¬ (4294967296 ≤ q1 ∨ s1 < m1)) (hh1 : l1 < 4294967296) :
    Calls Try.prog 44 #[.int .u64 hi, .int .u64 below, .int .u64 y] w fun e w' => e = .returned (.tuple #[.int .u64 q1, .int .u64 (IntKind.u64.wrap (IntKind.u64.wrap (IntKind.u64.wrap (hi * 4294967296) + below) - IntKind.u64.wrap (q1 * y)))]) ∧ ∃ n, w' = w.drewN n := by
  go_enter Try.func44, Try.ntmps44
  go_wp2_with fail
  refine wp_scope_rounds 0 3 rfl ?_
  go_wp2_with fail
  go_region
  go_wp2_with fail
  go_step3
  go_wp2_with fail
  all_goals (go_step3; refine ⟨rfl, ?_⟩; unfold ScopeR; go_wp2_with fail)
  all_goals (simp only [Exit.jump]; go_ret2; exact ⟨rfl, 1, rfl⟩)


set_option maxHeartbeats 4000000 in
theorem digit_walk2a (hi below y y1 y0 : Int) (w : World) (hy1 : IntKind.u64.wrap (y.tdiv 4294967296) = y1) (hy0 : y.tmod 4294967296 = y0) (hne : ¬ (y1 = 0)) (q0 l0 m0 s0 : Int) (q1 l1 m1 s1 : Int) (q2 l2 m2 s2 : Int) (hq0 : IntKind.u64.wrap (hi.tdiv y1) = q0) (hl0 : hi.tmod y1 = l0) (hm0 : IntKind.u64.wrap (q0 * y0) = m0) (hs0 : IntKind.u64.wrap (IntKind.u64.wrap (l0 * 4294967296) + below) = s0) (ht0 : 4294967296 ≤ q0 ∨ s0 < m0) (hq1 : IntKind.u64.wrap (q0 - 1) = q1) (hl1 : IntKind.u64.wrap (l0 + y1) = l1) (hm1 : IntKind.u64.wrap (q1 * y0) = m1) (hs1 : IntKind.u64.wrap (IntKind.u64.wrap (l1 * 4294967296) + below) = s1) (ht1 : 4294967296 ≤ q1 ∨ s1 < m1) (hq2 : IntKind.u64.wrap (q1 - 1) = q2) (hl2 : IntKind.u64.wrap (l1 + y1) = l2) (hh1 : l1 < 4294967296) (hh2 : 4294967296 ≤ l2) :
    Calls Try.prog 44 #[.int .u64 hi, .int .u64 below, .int .u64 y] w fun e w' => e = .returned (.tuple #[.int .u64 q2, .int .u64 (IntKind.u64.wrap (IntKind.u64.wrap (IntKind.u64.wrap (hi * 4294967296) + below) - IntKind.u64.wrap (q2 * y)))]) ∧ ∃ n, w' = w.drewN n := by
  go_enter Try.func44, Try.ntmps44
  go_wp2_with fail
  refine wp_scope_rounds 0 3 rfl ?_
  go_wp2_with fail
  go_region
  go_wp2_with fail
  go_step3
  go_wp2_with fail
  all_goals (go_step3; refine ⟨rfl, ?_⟩; unfold ScopeR; go_wp2_with fail)
  all_goals (simp only [Exit.jump]; go_ret2; exact ⟨rfl, 1, rfl⟩)


set_option maxHeartbeats 4000000 in
theorem digit_walk2b (hi below y y1 y0 : Int) (w : World) (hy1 : IntKind.u64.wrap (y.tdiv 4294967296) = y1) (hy0 : y.tmod 4294967296 = y0) (hne : ¬ (y1 = 0)) (q0 l0 m0 s0 : Int) (q1 l1 m1 s1 : Int) (q2 l2 m2 s2 : Int) (hq0 : IntKind.u64.wrap (hi.tdiv y1) = q0) (hl0 : hi.tmod y1 = l0) (hm0 : IntKind.u64.wrap (q0 * y0) = m0) (hs0 : IntKind.u64.wrap (IntKind.u64.wrap (l0 * 4294967296) + below) = s0) (ht0 : 4294967296 ≤ q0 ∨ s0 < m0) (hq1 : IntKind.u64.wrap (q0 - 1) = q1) (hl1 : IntKind.u64.wrap (l0 + y1) = l1) (hm1 : IntKind.u64.wrap (q1 * y0) = m1) (hs1 : IntKind.u64.wrap (IntKind.u64.wrap (l1 * 4294967296) + below) = s1) (ht1 : 4294967296 ≤ q1 ∨ s1 < m1) (hq2 : IntKind.u64.wrap (q1 - 1) = q2) (hl2 : IntKind.u64.wrap (l1 + y1) = l2) (hh1 : l1 < 4294967296) (hm2 : IntKind.u64.wrap (q2 * y0) = m2) (hs2 : IntKind.u64.wrap (IntKind.u64.wrap (l2 * 4294967296) + below) = s2) (ht2 : ¬ (4294967296 ≤ q2 ∨ s2 < m2)) (hh2 : l2 < 4294967296) :
    Calls Try.prog 44 #[.int .u64 hi, .int .u64 below, .int .u64 y] w fun e w' => e = .returned (.tuple #[.int .u64 q2, .int .u64 (IntKind.u64.wrap (IntKind.u64.wrap (IntKind.u64.wrap (hi * 4294967296) + below) - IntKind.u64.wrap (q2 * y)))]) ∧ ∃ n, w' = w.drewN n := by
  go_enter Try.func44, Try.ntmps44
  go_wp2_with fail
  refine wp_scope_rounds 0 3 rfl ?_
  go_wp2_with fail
  go_region
  go_wp2_with fail
  go_step3
  go_wp2_with fail
  all_goals (go_step3; refine ⟨rfl, ?_⟩; unfold ScopeR; go_wp2_with fail)
  all_goals (go_step3; refine ⟨rfl, ?_⟩; unfold ScopeR; go_wp2_with fail)
  all_goals (simp only [Exit.jump]; go_ret2; exact ⟨rfl, 1, rfl⟩)


/-! ### as numbers -/
def addF (a b c : Int) : Int × Int := if (c != 0) = true then (IntKind.u64.wrap (IntKind.u64.wrap (a + b) + 1), Go.bits .or .u64 (bitOf (decide (IntKind.u64.wrap (a + b) < a))) (bitOf (IntKind.u64.wrap (IntKind.u64.wrap (a + b) + 1) == 0)))
  else (IntKind.u64.wrap (a + b), bitOf (decide (IntKind.u64.wrap (a + b) < a)))
def subF (a b c : Int) : Int × Int := if (c != 0) = true then (IntKind.u64.wrap (IntKind.u64.wrap (a - b) - 1), Go.bits .or .u64 (bitOf (decide (a < b))) (bitOf (IntKind.u64.wrap (a - b) == 0)))
  else (IntKind.u64.wrap (a - b), bitOf (decide (a < b)))
theorem addF_eq {a b c : Int} (ha : U64 a) (hb : U64 b) (hc : bit01 c) : addF a b c = addS a b c := by
  rcases hc with rfl | rfl
  · show (_, _) = (_, _)
    rw [(add_raw0 ha hb).2, (add_raw0 ha hb).1]
  · show (_, _) = (_, _)
    rw [(add_raw1 ha hb).2, (add_raw1 ha hb).1]
theorem subF_eq {a b c : Int} (ha : U64 a) (hb : U64 b) (hc : bit01 c) : subF a b c = subS a b c := by
  rcases hc with rfl | rfl
  · show (_, _) = (_, _)
    rw [(sub_raw0 ha hb).2, (sub_raw0 ha hb).1]
  · show (_, _) = (_, _)
    rw [(sub_raw1 ha hb).2, (sub_raw1 ha hb).1]
theorem add_any (a b c : Int) (w : World) : Calls Try.prog 16 #[.int .u64 a, .int .u64 b, .int .u64 c] w fun e w' => e = .returned (.tuple #[.int .u64 (addF a b c).1, .int .u64 (addF a b c).2]) ∧ w = w' := by
  unfold addF
  by_cases h : (c != 0) = true
  · rw [if_pos h]; exact add_walk1 a b c w h
  · rw [if_neg h]; exact add_walk0 a b c w (Bool.eq_false_iff.2 h)
theorem sub_any (a b c : Int) (w : World) : Calls Try.prog 20 #[.int .u64 a, .int .u64 b, .int .u64 c] w fun e w' => e = .returned (.tuple #[.int .u64 (subF a b c).1, .int .u64 (subF a b c).2]) ∧ w = w' := by
  unfold subF
  by_cases h : (c != 0) = true
  · rw [if_pos h]; exact sub_walk1 a b c w h
  · rw [if_neg h]; exact sub_walk0 a b c w (Bool.eq_false_iff.2 h)
theorem add_calls {a b c : Int} (ha : U64 a) (hb : U64 b) (hc : bit01 c) (w : World) : Calls Try.prog 16 #[.int .u64 a, .int .u64 b, .int .u64 c] w fun e w' => e = .returned (.tuple #[.int .u64 (lo (a + b + c)), .int .u64 (hi (a + b + c))]) ∧ w = w' := by
  have h := add_any a b c w
  rw [addF_eq ha hb hc] at h
  exact h
theorem sub_calls {a b c : Int} (ha : U64 a) (hb : U64 b) (hc : bit01 c) (w : World) : Calls Try.prog 20 #[.int .u64 a, .int .u64 b, .int .u64 c] w fun e w' => e = .returned (.tuple #[.int .u64 (lo (a - b - c)), .int .u64 (- hi (a - b - c))]) ∧ w = w' := by
  have h := sub_any a b c w
  rw [subF_eq ha hb hc] at h
  exact h
theorem mul_calls {a b : Int} (ha : U64 a) (hb : U64 b) (w : World) : Calls Try.prog 43 #[.int .u64 a, .int .u64 b] w fun e w' => e = .returned (.tuple #[.int .u64 (hi (a * b)), .int .u64 (lo (a * b))]) ∧ w = w' := by
  have h := mul_walk a b _ _ _ _ _ _ _ w rfl rfl rfl rfl rfl rfl rfl
  have e := mul_raw ha hb _ _ _ _ _ _ _ rfl rfl rfl rfl rfl rfl rfl
  rw [e.1, e.2] at h
  exact h

end Go.Proofs.Ytgjdegahofoalaa.Limb

/- limb.Len: how many bits. -/
namespace Go.Proofs.Ytgjdegahofoalaa.Limb
open Go.RowKit
def lenN (m : Nat) : Nat := if m = 0 then 0 else Nat.log2 m + 1
theorem lenN_step {m : Nat} (h : m ≠ 0) : lenN m = lenN (m / 2) + 1 := by
  unfold lenN
  rw [if_neg h]
  by_cases h2 : m / 2 = 0
  · rw [if_pos h2]
    have : m = 1 := by omega
    subst this
    rfl
  · rw [if_neg h2, Nat.log2_def, if_pos (by omega)]
theorem lenN_le {m : Nat} (h : m < 2 ^ 64) : lenN m ≤ 64 := by
  unfold lenN
  split
  · omega
  · rename_i h0
    have := (Nat.log2_lt h0 (k := 64)).2 h
    omega
set_option maxHeartbeats 2000000 in
set_option maxRecDepth 100000 in
theorem len_calls (m0 : Nat) (hm : m0 < 2 ^ 64) (w : World) : Calls Try.prog 38 #[.int .u64 (m0 : Int)] w fun e w' => e = .returned (.int .i64 (lenN m0 : Nat)) ∧ w = w' := by
  have hle : lenN m0 ≤ 64 := lenN_le hm
  clear hm
  go_enter Try.func38, Try.ntmps38
  go_wp2_with fail
  go_loop [0, 3] (fun x n => ∃ (m k : Nat), x = .int .u64 (m : Int) ∧ n = .int .i64 (k : Int) ∧ k + lenN m = lenN m0) (fun x _ => (intOf x).toNat)
  case atStart => exact ⟨m0, 0, rfl, rfl, by omega⟩
  case round =>
    obtain ⟨m, k, rfl, rfl, hk⟩ := hrel
    by_cases h0 : m = 0
    · subst h0
      have hk' : k = lenN m0 := by rw [← hk]; simp [lenN]
      clear hk
      have Hk := Lib.hid hk'; clear hk'
      go_wp2_with fail
      go_ret
      exact ⟨(by rw [Hk.out]; rfl), rfl⟩
    · have hs := lenN_step h0
      have hd : m / 2 < m := by omega
      have hk1 : (k : Int) ≤ 63 := by omega
      have hk2 : k + 1 + lenN (m / 2) = lenN m0 := by omega
      have H2 := Lib.hid hk2
      have h0' : ((m : Int) != 0) = true := by rw [bne_iff_ne]; omega
      have Hd := Lib.hid hd
      clear hk hs hk2 hd
      go_wp2_with fail
      go_round
      case rel => exact ⟨m / 2, k + 1, by go_num, by go_num, H2.out⟩
      case measure => have := Hd.out; simp [intOf]; omega
end Go.Proofs.Ytgjdegahofoalaa.Limb

/- limb.digit, limb.Div: quotients. -/
namespace Go.Proofs.Ytgjdegahofoalaa.Limb
open Go.RowKit

/-- What a digit's guess q, with what it leaves l, says of the true quotient. -/
structure Guess (N hi below y y1 y0 q l : Int) : Prop where
  sum : q * y1 + l = hi
  q0 : 0 ≤ q
  l0 : 0 ≤ l
theorem Guess.prod {N hi below y y1 y0 q l : Int} (g : Guess N hi below y y1 y0 q l) (hN : N = hi * 4294967296 + below) (hy : y = y1 * 4294967296 + y0) :
    N - q * y = l * 4294967296 + below - q * y0 := by
  have e : q * y = (q * y1) * 4294967296 + q * y0 := by rw [hy, Int.mul_add, Int.mul_assoc]
  have := g.sum
  rw [e, hN]
  omega
theorem Guess.low {N hi below y y1 y0 q l : Int} (g : Guess N hi below y y1 y0 q l) (hN : N = hi * 4294967296 + below) (hy : y = y1 * 4294967296 + y0) (hp : 0 < y)
    (h : q * y0 ≤ l * 4294967296 + below) : q ≤ N / y := by
  rw [Int.le_ediv_iff_mul_le hp]
  have := g.prod hN hy
  omega
theorem Guess.high {N hi below y y1 y0 q l : Int} (g : Guess N hi below y y1 y0 q l) (hN : N = hi * 4294967296 + below) (hy : y = y1 * 4294967296 + y0) (hp : 0 < y)
    (h : l * 4294967296 + below < q * y0) : N / y < q := by
  rw [Int.ediv_lt_iff_lt_mul hp]
  have := g.prod hN hy
  omega
theorem small_mul {q y0 : Int} (hq0 : 0 ≤ q) (hq : q ≤ 4294967296) (hy0 : 0 ≤ y0) (hy : y0 < 4294967296) : 0 ≤ q * y0 ∧ q * y0 ≤ 18446744069414584320 :=
  ⟨Int.mul_nonneg hq0 hy0, Int.le_trans (Int.mul_le_mul hq (Int.le_of_lt_add_one hy : y0 ≤ 4294967295) hy0 (by decide)) (by decide)⟩
theorem rest_eq {N hi below y q : Int} (hN : N = hi * 4294967296 + below) (hp : 0 < y) (hyu : y < 18446744073709551616) (hq : q = N / y) :
    IntKind.u64.wrap (IntKind.u64.wrap (IntKind.u64.wrap (hi * 4294967296) + below) - IntKind.u64.wrap (q * y)) = N % y := by
  simp only [wrap_lo]
  have e : N % y = N - q * y := by rw [hq, Int.emod_def, Int.mul_comm]
  have h0 := Int.emod_nonneg N (show y ≠ 0 by omega)
  have h1 := Int.emod_lt_of_pos N hp
  rw [e] at h0 h1 ⊢
  subst hN
  generalize q * y = p at *
  unfold lo
  omega
theorem digit_calls {hi below y : Int} (hy0 : 9223372036854775808 ≤ y) (hy1 : y < 18446744073709551616) (hh0 : 0 ≤ hi) (hh1 : hi < y) (hb0 : 0 ≤ below) (hb1 : below < 4294967296) (w : World) :
    Calls Try.prog 44 #[.int .u64 hi, .int .u64 below, .int .u64 y] w fun e w' => e = .returned (.tuple #[.int .u64 ((hi * 4294967296 + below) / y), .int .u64 ((hi * 4294967296 + below) % y)]) ∧ ∃ n, w' = w.drewN n := by
  obtain ⟨N, hN⟩ : ∃ N, N = hi * 4294967296 + below := ⟨_, rfl⟩
  obtain ⟨y1, e1⟩ : ∃ y1, y1 = y / 4294967296 := ⟨_, rfl⟩
  obtain ⟨y0, e0⟩ : ∃ y0, y0 = y % 4294967296 := ⟨_, rfl⟩
  have hy : y = y1 * 4294967296 + y0 := by omega
  have b1 : 2147483648 ≤ y1 ∧ y1 < 4294967296 := by omega
  have b0 : 0 ≤ y0 ∧ y0 < 4294967296 := by omega
  have hp : 0 < y := by omega
  have w1 : IntKind.u64.wrap (y.tdiv 4294967296) = y1 := by rw [wrap_lo, tdiv_pos _ (by omega)]; unfold lo; omega
  have w0 : y.tmod 4294967296 = y0 := by rw [tmod_pos _ (by omega)]; omega
  obtain ⟨q0, eq0⟩ : ∃ q0, q0 = hi / y1 := ⟨_, rfl⟩
  obtain ⟨l0, el0⟩ : ∃ l0, l0 = hi % y1 := ⟨_, rfl⟩
  have hq0n : 0 ≤ q0 := by rw [eq0]; exact Int.ediv_nonneg hh0 (by omega)
  have hl0n : 0 ≤ l0 := by rw [el0]; exact Int.emod_nonneg _ (by omega)
  have hl0u : l0 < y1 := by rw [el0]; exact Int.emod_lt_of_pos _ (by omega)
  have hs0 : q0 * y1 + l0 = hi := by rw [eq0, el0, Int.mul_comm]; exact Int.mul_ediv_add_emod hi y1
  have g0 : Guess N hi below y y1 y0 q0 l0 := ⟨hs0, hq0n, hl0n⟩
  -- q0 is at most 2^32 + 1
  have hq0u : q0 ≤ 4294967297 := by
    have h1 : hi < (4294967296 + 2) * y1 := by omega
    have := (Int.ediv_lt_iff_lt_mul (show 0 < y1 by omega)).2 h1
    omega
  -- the true quotient
  obtain ⟨Q, eQ⟩ : ∃ Q, Q = N / y := ⟨_, rfl⟩
  have hQ0 : 0 ≤ Q := by rw [eQ]; exact Int.ediv_nonneg (by omega) (by omega)
  have hQu : Q < 4294967296 := by
    rw [eQ, Int.ediv_lt_iff_lt_mul hp]
    omega
  have hQq0 : Q ≤ q0 := by
    rw [eq0, Int.le_ediv_iff_mul_le (by omega)]
    have h1 : Q * y ≤ N := by rw [eQ]; exact Int.ediv_mul_le N (by omega)
    have h2 : Q * y = (Q * y1) * 4294967296 + Q * y0 := by
      have : y = y1 * 4294967296 + y0 := hy
      rw [this, Int.mul_add, Int.mul_assoc]
    have h3 := Int.mul_nonneg hQ0 b0.1
    omega
  have wq0 : IntKind.u64.wrap (hi.tdiv y1) = q0 := by rw [wrap_lo, tdiv_pos _ hh0, ← eq0]; unfold lo; omega
  have wl0 : hi.tmod y1 = l0 := by rw [tmod_pos _ hh0]; exact el0.symm
  have ws (l : Int) (h0 : 0 ≤ l) (h1 : l < 4294967296) : IntKind.u64.wrap (IntKind.u64.wrap (l * 4294967296) + below) = l * 4294967296 + below := by
    simp only [wrap_lo]; unfold lo; omega
  have wm (q : Int) (h0 : 0 ≤ q) (h1 : q < 4294967296) : IntKind.u64.wrap (q * y0) = q * y0 := by
    have := small_mul h0 (by omega) b0.1 b0.2
    rw [wrap_lo]; unfold lo; omega
  have fin (q : Int) (hq : q = Q) : Calls Try.prog 44 #[.int .u64 hi, .int .u64 below, .int .u64 y] w (fun e w' => e = .returned (.tuple #[.int .u64 q, .int .u64 (IntKind.u64.wrap (IntKind.u64.wrap (IntKind.u64.wrap (hi * 4294967296) + below) - IntKind.u64.wrap (q * y)))]) ∧ ∃ n, w' = w.drewN n) →
      Calls Try.prog 44 #[.int .u64 hi, .int .u64 below, .int .u64 y] w fun e w' => e = .returned (.tuple #[.int .u64 ((hi * 4294967296 + below) / y), .int .u64 ((hi * 4294967296 + below) % y)]) ∧ ∃ n, w' = w.drewN n := by
    intro h
    rw [rest_eq hN hp hy1 (hq.trans eQ), hq, eQ, hN] at h
    exact h
  clear hs0
  by_cases t0 : 4294967296 ≤ q0 ∨ IntKind.u64.wrap (IntKind.u64.wrap (l0 * 4294967296) + below) < IntKind.u64.wrap (q0 * y0)
  · -- one less
    have hlt0 : Q < q0 := by
      rcases t0 with t | t
      · omega
      · by_cases hbig : 4294967296 ≤ q0
        · omega
        · rw [ws l0 hl0n (by omega), wm q0 hq0n (by omega)] at t
          rw [eQ]; exact g0.high hN hy hp t
    have wq1 : IntKind.u64.wrap (q0 - 1) = q0 - 1 := by rw [wrap_lo]; unfold lo; omega
    have wl1 : IntKind.u64.wrap (l0 + y1) = l0 + y1 := by rw [wrap_lo]; unfold lo; omega
    have g1 : Guess N hi below y y1 y0 (q0 - 1) (l0 + y1) := ⟨by rw [Int.sub_mul]; have := g0.sum; omega, by omega, by omega⟩
    by_cases s1 : 4294967296 ≤ l0 + y1
    · have hq : q0 - 1 = Q := by
        have h1 := small_mul (q := q0 - 1) (by omega) (by omega) b0.1 b0.2
        have := g1.low hN hy hp (by omega)
        omega
      exact fin _ hq (digit_walk1a hi below y y1 y0 w w1 w0 (by omega) q0 l0 _ _ (q0 - 1) (l0 + y1) 0 0 wq0 wl0 rfl rfl t0 wq1 wl1 s1)
    · by_cases t1 : 4294967296 ≤ q0 - 1 ∨ IntKind.u64.wrap (IntKind.u64.wrap ((l0 + y1) * 4294967296) + below) < IntKind.u64.wrap ((q0 - 1) * y0)
      · -- two less
        have hlt1 : Q < q0 - 1 := by
          rcases t1 with t | t
          · omega
          · by_cases hbig : 4294967296 ≤ q0 - 1
            · omega
            · rw [ws (l0 + y1) (by omega) (by omega), wm (q0 - 1) (by omega) (by omega)] at t
              rw [eQ]; exact g1.high hN hy hp t
        have wq2 : IntKind.u64.wrap (q0 - 1 - 1) = q0 - 1 - 1 := by rw [wrap_lo]; unfold lo; omega
        have wl2 : IntKind.u64.wrap (l0 + y1 + y1) = l0 + y1 + y1 := by rw [wrap_lo]; unfold lo; omega
        have g2 : Guess N hi below y y1 y0 (q0 - 1 - 1) (l0 + y1 + y1) := ⟨by rw [Int.sub_mul]; have := g1.sum; omega, by omega, by omega⟩
        have hq : q0 - 1 - 1 = Q := by
          have h1 := small_mul (q := q0 - 1 - 1) (by omega) (by omega) b0.1 b0.2
          have := g2.low hN hy hp (by omega)
          omega
        exact fin _ hq (digit_walk2a hi below y y1 y0 w w1 w0 (by omega) q0 l0 _ _ (q0 - 1) (l0 + y1) _ _ (q0 - 1 - 1) (l0 + y1 + y1) 0 0 wq0 wl0 rfl rfl t0 wq1 wl1 rfl rfl t1 wq2 wl2 (by omega) (by omega))
      · have hq : q0 - 1 = Q := by
          have t1' := not_or.1 t1
          rw [ws (l0 + y1) (by omega) (by omega), wm (q0 - 1) (by omega) (by omega)] at t1'
          have := g1.low hN hy hp (by omega)
          omega
        exact fin _ hq (digit_walk1b hi below y y1 y0 w w1 w0 (by omega) q0 l0 _ _ (q0 - 1) (l0 + y1) _ _ wq0 wl0 rfl rfl t0 wq1 wl1 rfl rfl t1 (by omega))
  · have hq : q0 = Q := by
      have t0' := not_or.1 t0
      rw [ws l0 hl0n (by omega), wm q0 hq0n (by omega)] at t0'
      have := g0.low hN hy hp (by omega)
      omega
    exact fin _ hq (digit_walk0b hi below y y1 y0 w w1 w0 (by omega) q0 l0 _ _ wq0 wl0 rfl rfl t0)
end Go.Proofs.Ytgjdegahofoalaa.Limb

/- limb.Div: a quotient of two limbs by one. -/
namespace Go.Proofs.Ytgjdegahofoalaa.Limb
open Go.RowKit

set_option maxHeartbeats 2000000 in
set_option maxRecDepth 100000 in
theorem div_zero (a b : Int) (w : World) : Calls Try.prog 42 #[.int .u64 a, .int .u64 b, .int .u64 0] w fun e w' => e = .returned (.tuple #[.int .u64 0, .int .u64 0, .int .i64 3]) ∧ w = w' := by
  go_enter Try.func42, Try.ntmps42
  go_wp2_with fail
  go_ret3
  exact ⟨rfl, rfl⟩
set_option maxHeartbeats 2000000 in
set_option maxRecDepth 100000 in
theorem div_over (a b y : Int) (h0 : (y == 0) = false) (h : y ≤ a) (w : World) : Calls Try.prog 42 #[.int .u64 a, .int .u64 b, .int .u64 y] w fun e w' => e = .returned (.tuple #[.int .u64 0, .int .u64 0, .int .i64 2]) ∧ w = w' := by
  go_enter Try.func42, Try.ntmps42
  go_wp2_with fail
  go_ret3
  exact ⟨rfl, rfl⟩
set_option maxHeartbeats 2000000 in
set_option maxRecDepth 100000 in
theorem div_walk (a b y' a' b' dh dl q1 r1 q0 r0 : Int) (y L s : Nat) (hyu : y < 2 ^ 64) (hL : lenN y = L) (h1 : 64 - (L : Int) = (s : Int)) (h2 : 64 - (s : Int) = (L : Int)) (hs : (s : Int) ≤ 63) (hL1 : (1 : Int) ≤ (L : Int)) (hL2 : (L : Int) ≤ 64)
    (h0 : ((y : Int) == 0) = false) (h : ¬ ((y : Int) ≤ a)) (hy : IntKind.u64.wrap ((y : Int) * 2 ^ s) = y') (ha : Go.bits .or .u64 (IntKind.u64.wrap (a * 2 ^ s)) (b / 2 ^ L) = a') (hb : IntKind.u64.wrap (b * 2 ^ s) = b')
    (hdh : IntKind.u64.wrap (b'.tdiv 4294967296) = dh) (hdl : b'.tmod 4294967296 = dl) (hq1 : (a' * 4294967296 + dh) / y' = q1) (hr1 : (a' * 4294967296 + dh) % y' = r1) (hq0 : (r1 * 4294967296 + dl) / y' = q0) (hr0 : (r1 * 4294967296 + dl) % y' = r0)
    (c1 : 9223372036854775808 ≤ y') (c2 : y' < 18446744073709551616) (c3 : 0 ≤ a') (c4 : a' < y') (c5 : 0 ≤ dh) (c6 : dh < 4294967296) (c7 : 0 ≤ r1) (c8 : r1 < y') (c9 : 0 ≤ dl) (c10 : dl < 4294967296) (w : World) :
    Calls Try.prog 42 #[.int .u64 a, .int .u64 b, .int .u64 (y : Int)] w fun e w' => e = .returned (.tuple #[.int .u64 (IntKind.u64.wrap (IntKind.u64.wrap (q1 * 4294967296) + q0)), .int .u64 (r0 / 2 ^ s), .int .i64 0]) ∧ ∃ n, w' = w.drewN n := by
  have D1 := Lib.hid (digit_calls c1 c2 c3 c4 c5 c6)
  have D2 := Lib.hid (digit_calls c1 c2 c7 c8 c9 c10)
  have LL := Lib.hid (len_calls y hyu)
  rw [hL] at LL
  clear c1 c2 c3 c4 c5 c6 c7 c8 c9 c10 hyu hL
  go_enter Try.func42, Try.ntmps42
  go_wp2_with fail
  refine (LL.out _).mono ?_
  rintro e w' ⟨rfl, rfl⟩
  go_wp2_with fail
  go_quiet (fail)
  go_wp2_with fail
  refine (D1.out _).mono ?_
  rintro e w' ⟨rfl, n1, rfl⟩
  go_wp2_with fail
  refine (D2.out _).mono ?_
  rintro e w' ⟨rfl, n2, rfl⟩
  go_wp2_with fail
  go_quiet (fail)
  go_wp2_with fail
  go_ret3
  exact ⟨rfl, _, World.drewN_drewN _ _ _⟩

theorem lenN_bd {m : Nat} (h : m ≠ 0) : 2 ^ (lenN m - 1) ≤ m ∧ m < 2 ^ lenN m ∧ 1 ≤ lenN m := by
  unfold lenN
  rw [if_neg h]
  exact ⟨Nat.log2_self_le h, Nat.lt_log2_self, by omega⟩
/-- A quotient is the same behind a shift of both. -/
theorem div_shift {N y P Q r : Int} (hP : 0 < P) (hy : 0 < y) (h : N * P = Q * (y * P) + r) (h0 : 0 ≤ r) (h1 : r < y * P) : N / y = Q ∧ N % y = r / P := by
  have e : r = P * (N - Q * y) := by
    have : P * (N - Q * y) = N * P - Q * (y * P) := by rw [Int.mul_sub, Int.mul_comm P N, Int.mul_comm P (Q * y), Int.mul_assoc]
    omega
  have e2 : r / P = N - Q * y := by rw [e]; exact Int.mul_ediv_cancel_left _ (by omega)
  have g0 : 0 ≤ N - Q * y := by rw [← e2]; exact Int.ediv_nonneg h0 (by omega)
  have g1 : N - Q * y < y := by
    rw [← e2]
    exact (Int.ediv_lt_iff_lt_mul hP).2 h1
  have e3 : N = (N - Q * y) + Q * y := by omega
  constructor
  · rw [e3, Int.add_mul_ediv_right _ _ (by omega), Int.ediv_eq_zero_of_lt g0 g1]; omega
  · rw [e2]
    have : N % y = (N - Q * y) % y := by rw [← Int.sub_mul_emod_self_right N Q y]
    rw [this, Int.emod_eq_of_lt g0 g1]
theorem div_calls {a b : Int} {y : Nat} (hy0 : y ≠ 0) (hy : y < 2 ^ 64) (ha0 : 0 ≤ a) (ha : a < (y : Int)) (hb : U64 b) (w : World) :
    Calls Try.prog 42 #[.int .u64 a, .int .u64 b, .int .u64 (y : Int)] w fun e w' => e = .returned (.tuple #[.int .u64 ((a * 18446744073709551616 + b) / y), .int .u64 ((a * 18446744073709551616 + b) % y), .int .i64 0]) ∧ ∃ n, w' = w.drewN n := by
  obtain ⟨L, hL⟩ : ∃ L, L = lenN y := ⟨_, rfl⟩
  obtain ⟨l1, l2, l3⟩ := lenN_bd hy0
  have l4 := lenN_le hy
  rw [← hL] at l1 l2 l3 l4
  obtain ⟨s, hs⟩ : ∃ s, s = 64 - L := ⟨_, rfl⟩
  obtain ⟨P, hP⟩ : ∃ P : Nat, P = 2 ^ s := ⟨_, rfl⟩
  obtain ⟨R, hR⟩ : ∃ R : Nat, R = 2 ^ L := ⟨_, rfl⟩
  have hPR : P * R = 18446744073709551616 := by
    rw [hP, hR, ← Nat.pow_add, show s + L = 64 by omega]
  have hP1 : 1 ≤ P := by rw [hP]; exact Nat.one_le_two_pow
  have hR1 : 1 ≤ R := by rw [hR]; exact Nat.one_le_two_pow
  have hRh : R = 2 * 2 ^ (L - 1) := by rw [hR, ← Nat.pow_succ', show (L - 1).succ = L by omega]
  -- the divisor, moved up
  have yP1 : 9223372036854775808 ≤ y * P := by
    have h1 : 2 ^ (L - 1) * P ≤ y * P := Nat.mul_le_mul_right P l1
    have h2 : 2 * (2 ^ (L - 1) * P) = 18446744073709551616 := by rw [← Nat.mul_assoc, ← hRh, Nat.mul_comm]; exact hPR
    omega
  have yP2 : y * P < 18446744073709551616 := by
    have h1 : y * P < R * P := Nat.mul_lt_mul_of_pos_right (by rw [hR]; exact l2) (by omega)
    rw [Nat.mul_comm R P, hPR] at h1
    exact h1
  obtain ⟨av, rfl⟩ := Int.eq_ofNat_of_zero_le ha0
  obtain ⟨bv, rfl⟩ := Int.eq_ofNat_of_zero_le hb.1
  have hav : av < y := by omega
  have hbv : bv < 18446744073709551616 := by have := hb.2; omega
  have aP : av * P + P ≤ y * P := by
    have h1 : (av + 1) * P ≤ y * P := Nat.mul_le_mul_right P hav
    rw [Nat.add_mul, Nat.one_mul] at h1
    exact h1
  have bR : bv / R < P := by
    rw [Nat.div_lt_iff_lt_mul (by omega), hPR]
    exact hbv
  have bsplit : bv * P = (bv / R) * 18446744073709551616 + (bv % R) * P := by
    have h1 := Nat.div_add_mod bv R
    have h2 : bv * P = (R * (bv / R) + bv % R) * P := by rw [h1]
    rw [h2, Nat.add_mul, ← hPR, Nat.mul_comm R, Nat.mul_assoc, Nat.mul_comm R P]
  have bmod : (bv % R) * P < 18446744073709551616 := by
    have h1 : (bv % R) * P < R * P := Nat.mul_lt_mul_of_pos_right (Nat.mod_lt _ (by omega)) (by omega)
    rw [Nat.mul_comm R P, hPR] at h1
    exact h1
  have castP : (2 : Int) ^ s = (P : Int) := by rw [hP]; norm_cast
  have castR : (2 : Int) ^ L = (R : Int) := by rw [hR]; norm_cast
  have wy : IntKind.u64.wrap ((y : Int) * 2 ^ s) = ((y * P : Nat) : Int) := by
    rw [castP, wrap_lo, ← Int.natCast_mul]; unfold lo; omega
  have wa : IntKind.u64.wrap ((av : Int) * 2 ^ s) = ((av * P : Nat) : Int) := by
    rw [castP, wrap_lo, ← Int.natCast_mul]; unfold lo; omega
  have wb : IntKind.u64.wrap ((bv : Int) * 2 ^ s) = (((bv % R) * P : Nat) : Int) := by
    rw [castP, wrap_lo, ← Int.natCast_mul, bsplit]; unfold lo; omega
  have wor : Go.bits .or .u64 (IntKind.u64.wrap ((av : Int) * 2 ^ s)) ((bv : Int) / 2 ^ L) = ((av * P + bv / R : Nat) : Int) := by
    rw [wa, castR]
    have hk : ∀ n : Int, 0 ≤ n → n < 2 ^ 64 → IntKind.u64.wrap n = n := by
      intro n h0 h1
      have h1' : n < 18446744073709551616 := h1
      rw [wrap_lo]; unfold lo; omega
    have e64 : (2 : Int) ^ 64 = 18446744073709551616 := rfl
    have hmod : ((av * P : Nat) : Int) % 2 ^ s = 0 := by
      rw [castP]
      exact_mod_cast Nat.mul_mod_left av P
    have hbR : ((bv : Int) / (R : Int)) = ((bv / R : Nat) : Int) := by norm_cast
    rw [hbR]
    rw [bits_join .u64 64 (by decide) hk s _ _ (by omega) hmod (by rw [e64]; omega) (by omega) (by rw [castP]; omega) (by rw [e64]; omega)]
    omega
  obtain ⟨a', ea'⟩ : ∃ a', a' = av * P + bv / R := ⟨_, rfl⟩
  obtain ⟨b', eb'⟩ : ∃ b', b' = (bv % R) * P := ⟨_, rfl⟩
  obtain ⟨y', ey'⟩ : ∃ y', y' = y * P := ⟨_, rfl⟩
  rw [← ea'] at wor
  rw [← eb'] at wb bsplit bmod
  rw [← ey'] at wy yP1 yP2 aP
  have ha' : a' < y' := by omega
  have wdh : IntKind.u64.wrap (((b' : Nat) : Int).tdiv 4294967296) = ((b' : Nat) : Int) / 4294967296 := by rw [wrap_lo, tdiv_pos _ (by omega)]; unfold lo; omega
  have wdl : ((b' : Nat) : Int).tmod 4294967296 = ((b' : Nat) : Int) % 4294967296 := tmod_pos _ (by omega)
  obtain ⟨q1, eq1⟩ : ∃ q1, q1 = ((a' : Int) * 4294967296 + (b' : Int) / 4294967296) / (y' : Int) := ⟨_, rfl⟩
  obtain ⟨r1, er1⟩ : ∃ r1, r1 = ((a' : Int) * 4294967296 + (b' : Int) / 4294967296) % (y' : Int) := ⟨_, rfl⟩
  obtain ⟨q0, eq0⟩ : ∃ q0, q0 = (r1 * 4294967296 + (b' : Int) % 4294967296) / (y' : Int) := ⟨_, rfl⟩
  obtain ⟨r0, er0⟩ : ∃ r0, r0 = (r1 * 4294967296 + (b' : Int) % 4294967296) % (y' : Int) := ⟨_, rfl⟩
  have hyp : (0 : Int) < (y' : Int) := by omega
  have s1 : (y' : Int) * q1 + r1 = (a' : Int) * 4294967296 + (b' : Int) / 4294967296 := by rw [eq1, er1]; exact Int.mul_ediv_add_emod _ _
  have s0 : (y' : Int) * q0 + r0 = r1 * 4294967296 + (b' : Int) % 4294967296 := by rw [eq0, er0]; exact Int.mul_ediv_add_emod _ _
  have r1a : 0 ≤ r1 := by rw [er1]; exact Int.emod_nonneg _ (by omega)
  have r1b : r1 < y' := by rw [er1]; exact Int.emod_lt_of_pos _ hyp
  have r0a : 0 ≤ r0 := by rw [er0]; exact Int.emod_nonneg _ (by omega)
  have r0b : r0 < y' := by rw [er0]; exact Int.emod_lt_of_pos _ hyp
  have q1a : 0 ≤ q1 := by rw [eq1]; exact Int.ediv_nonneg (by omega) (by omega)
  have q0a : 0 ≤ q0 := by rw [eq0]; exact Int.ediv_nonneg (by omega) (by omega)
  have q1b : q1 < 4294967296 := by rw [eq1, Int.ediv_lt_iff_lt_mul hyp]; omega
  have q0b : q0 < 4294967296 := by rw [eq0, Int.ediv_lt_iff_lt_mul hyp]; omega
  have main : ((av : Int) * 18446744073709551616 + bv) * P = (q1 * 4294967296 + q0) * ((y : Int) * P) + r0 := by
    have e1 : ((av : Int) * 18446744073709551616 + bv) * P = (a' : Int) * 18446744073709551616 + b' := by
      rw [Int.add_mul, Int.mul_right_comm, ← Int.natCast_mul, ← Int.natCast_mul, bsplit, ea']
      omega
    have e2 : ((y : Int) * P) = (y' : Int) := by rw [← Int.natCast_mul, ey']
    rw [e1, e2, Int.mul_comm (q1 * 4294967296 + q0), Int.mul_add, ← Int.mul_assoc]
    generalize (y' : Int) * q1 = p1 at *
    generalize (y' : Int) * q0 = p0 at *
    omega
  have e2 : ((y : Int) * P) = (y' : Int) := by rw [← Int.natCast_mul, ey']
  obtain ⟨d1, d2⟩ := div_shift (N := (av : Int) * 18446744073709551616 + bv) (y := (y : Int)) (P := (P : Int)) (by omega) (by omega) main r0a (by rw [e2]; exact r0b)
  have h := div_walk (av : Int) (bv : Int) y' a' b' _ _ q1 r1 q0 r0 y L s hy hL.symm (by omega) (by omega) (by omega) (by omega) (by omega)
    (beq_eq_false_iff_ne.2 (by omega)) (by omega) wy wor wb wdh wdl eq1.symm er1.symm eq0.symm er0.symm (by omega) (by omega) (by omega) (by omega) (by omega) (by omega) r1a r1b (by omega) (by omega) w
  have wq : IntKind.u64.wrap (IntKind.u64.wrap (q1 * 4294967296) + q0) = q1 * 4294967296 + q0 := by
    simp only [wrap_lo]; unfold lo; omega
  rw [wq, castP, ← d2, ← d1] at h
  exact h
end Go.Proofs.Ytgjdegahofoalaa.Limb

/- limb.Div by a limb that is not 0. -/
namespace Go.Proofs.Ytgjdegahofoalaa.Limb
open Go.RowKit
theorem div_int {a b y : Int} (hy0 : 0 < y) (hy : y < 18446744073709551616) (ha0 : 0 ≤ a) (ha : a < y) (hb : U64 b) (w : World) :
    Calls Try.prog 42 #[.int .u64 a, .int .u64 b, .int .u64 y] w fun e w' => e = .returned (.tuple #[.int .u64 ((a * 18446744073709551616 + b) / y), .int .u64 ((a * 18446744073709551616 + b) % y), .int .i64 0]) ∧ ∃ n, w' = w.drewN n := by
  obtain ⟨n, rfl⟩ := Int.eq_ofNat_of_zero_le (Int.le_of_lt hy0)
  have h64 : (2 : Nat) ^ 64 = 18446744073709551616 := rfl
  exact div_calls (by omega) (by rw [h64]; omega) ha0 ha hb w
end Go.Proofs.Ytgjdegahofoalaa.Limb
