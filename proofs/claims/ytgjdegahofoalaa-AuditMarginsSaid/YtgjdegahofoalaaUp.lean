/- wide.up: limbs, moved up by less than 64 bits. -/
import Derived.Test.YtgjdegahofoalaaRow
import Derived.Test.YtgjdegahofoalaaNum
set_option linter.unusedVariables false
set_option linter.unusedSimpArgs false
namespace Go.Proofs.Ytgjdegahofoalaa.Wide
open Go.RowKit

set_option maxHeartbeats 1000000 in
set_option maxRecDepth 100000 in
theorem up_walk_9_8 (bt bf s t : Nat) (f0 f1 f2 f3 f4 f5 f6 f7 t0 t1 t2 t3 t4 t5 t6 t7 t8 z0 z1 z2 z3 z4 z5 z6 z7 z8 : Int) (w : World) (hR : RowAt w bt) (hne : ¬ bf = bt) (h1 : 64 - (s : Int) = (t : Int)) (hs : (s : Int) ≤ 63) (ht : (t : Int) ≤ 64) (c0 : w.cell? ⟨bf, 0, none⟩ = some (.int .u64 f0)) (c1 : w.cell? ⟨bf, 1, none⟩ = some (.int .u64 f1)) (c2 : w.cell? ⟨bf, 2, none⟩ = some (.int .u64 f2)) (c3 : w.cell? ⟨bf, 3, none⟩ = some (.int .u64 f3)) (c4 : w.cell? ⟨bf, 4, none⟩ = some (.int .u64 f4)) (c5 : w.cell? ⟨bf, 5, none⟩ = some (.int .u64 f5)) (c6 : w.cell? ⟨bf, 6, none⟩ = some (.int .u64 f6)) (c7 : w.cell? ⟨bf, 7, none⟩ = some (.int .u64 f7)) (e0 : Go.bits .or .u64 (IntKind.u64.wrap (f0 * 2 ^ s)) (0) = z0) (e1 : Go.bits .or .u64 (IntKind.u64.wrap (f1 * 2 ^ s)) (f0 / 2 ^ t) = z1) (e2 : Go.bits .or .u64 (IntKind.u64.wrap (f2 * 2 ^ s)) (f1 / 2 ^ t) = z2) (e3 : Go.bits .or .u64 (IntKind.u64.wrap (f3 * 2 ^ s)) (f2 / 2 ^ t) = z3) (e4 : Go.bits .or .u64 (IntKind.u64.wrap (f4 * 2 ^ s)) (f3 / 2 ^ t) = z4) (e5 : Go.bits .or .u64 (IntKind.u64.wrap (f5 * 2 ^ s)) (f4 / 2 ^ t) = z5) (e6 : Go.bits .or .u64 (IntKind.u64.wrap (f6 * 2 ^ s)) (f5 / 2 ^ t) = z6) (e7 : Go.bits .or .u64 (IntKind.u64.wrap (f7 * 2 ^ s)) (f6 / 2 ^ t) = z7) (e8 : Go.bits .or .u64 (0) (f7 / 2 ^ t) = z8) :
    Calls Try.prog 39 #[.slice (some ⟨bt, 0, none⟩) 9 9, .slice (some ⟨bf, 0, none⟩) 8 8, .int .i64 (s : Int)] (w.setRow bt #[.int .u64 t0, .int .u64 t1, .int .u64 t2, .int .u64 t3, .int .u64 t4, .int .u64 t5, .int .u64 t6, .int .u64 t7, .int .u64 t8]) fun e w' => e = .returned (.tuple #[]) ∧ ∃ n, w' = (w.setRow bt #[.int .u64 z0, .int .u64 z1, .int .u64 z2, .int .u64 z3, .int .u64 z4, .int .u64 z5, .int .u64 z6, .int .u64 z7, .int .u64 z8]).drewN n := by
  go_enter Try.func39, Try.ntmps39
  go_wp2_with fail
  refine wp_loop_rounds 10 ?_
  rw [rounds_succ]
  go_wp2_with fail
  go_region
  go_wp2_with fail
  rw [rounds_succ]
  go_wp2_with fail
  go_region
  go_wp2_with fail
  rw [rounds_succ]
  go_wp2_with fail
  go_region
  go_wp2_with fail
  rw [rounds_succ]
  go_wp2_with fail
  go_region
  go_wp2_with fail
  rw [rounds_succ]
  go_wp2_with fail
  go_region
  go_wp2_with fail
  rw [rounds_succ]
  go_wp2_with fail
  go_region
  go_wp2_with fail
  rw [rounds_succ]
  go_wp2_with fail
  go_region
  go_wp2_with fail
  rw [rounds_succ]
  go_wp2_with fail
  go_region
  go_wp2_with fail
  rw [rounds_succ]
  go_wp2_with fail
  go_region
  go_wp2_with fail
  rw [rounds_succ]
  go_wp2_with fail
  go_end0
  exact ⟨rfl, 9, rfl⟩

set_option maxHeartbeats 1000000 in
set_option maxRecDepth 100000 in
theorem up_walk_1_1 (bt bf s t : Nat) (f0 t0 t1 t2 t3 z0 : Int) (w : World) (hR : RowAt w bt) (hne : ¬ bf = bt) (h1 : 64 - (s : Int) = (t : Int)) (hs : (s : Int) ≤ 63) (ht : (t : Int) ≤ 64) (c0 : w.cell? ⟨bf, 0, none⟩ = some (.int .u64 f0)) (e0 : Go.bits .or .u64 (IntKind.u64.wrap (f0 * 2 ^ s)) (0) = z0) :
    Calls Try.prog 39 #[.slice (some ⟨bt, 0, none⟩) 1 4, .slice (some ⟨bf, 0, none⟩) 1 4, .int .i64 (s : Int)] (w.setRow bt #[.int .u64 t0, .int .u64 t1, .int .u64 t2, .int .u64 t3]) fun e w' => e = .returned (.tuple #[]) ∧ ∃ n, w' = (w.setRow bt #[.int .u64 z0, .int .u64 t1, .int .u64 t2, .int .u64 t3]).drewN n := by
  go_enter Try.func39, Try.ntmps39
  go_wp2_with fail
  refine wp_loop_rounds 2 ?_
  rw [rounds_succ]
  go_wp2_with fail
  go_region
  go_wp2_with fail
  rw [rounds_succ]
  go_wp2_with fail
  go_end0
  exact ⟨rfl, 1, rfl⟩

set_option maxHeartbeats 1000000 in
set_option maxRecDepth 100000 in
theorem up_walk_2_2 (bt bf s t : Nat) (f0 f1 t0 t1 t2 t3 z0 z1 : Int) (w : World) (hR : RowAt w bt) (hne : ¬ bf = bt) (h1 : 64 - (s : Int) = (t : Int)) (hs : (s : Int) ≤ 63) (ht : (t : Int) ≤ 64) (c0 : w.cell? ⟨bf, 0, none⟩ = some (.int .u64 f0)) (c1 : w.cell? ⟨bf, 1, none⟩ = some (.int .u64 f1)) (e0 : Go.bits .or .u64 (IntKind.u64.wrap (f0 * 2 ^ s)) (0) = z0) (e1 : Go.bits .or .u64 (IntKind.u64.wrap (f1 * 2 ^ s)) (f0 / 2 ^ t) = z1) :
    Calls Try.prog 39 #[.slice (some ⟨bt, 0, none⟩) 2 4, .slice (some ⟨bf, 0, none⟩) 2 4, .int .i64 (s : Int)] (w.setRow bt #[.int .u64 t0, .int .u64 t1, .int .u64 t2, .int .u64 t3]) fun e w' => e = .returned (.tuple #[]) ∧ ∃ n, w' = (w.setRow bt #[.int .u64 z0, .int .u64 z1, .int .u64 t2, .int .u64 t3]).drewN n := by
  go_enter Try.func39, Try.ntmps39
  go_wp2_with fail
  refine wp_loop_rounds 3 ?_
  rw [rounds_succ]
  go_wp2_with fail
  go_region
  go_wp2_with fail
  rw [rounds_succ]
  go_wp2_with fail
  go_region
  go_wp2_with fail
  rw [rounds_succ]
  go_wp2_with fail
  go_end0
  exact ⟨rfl, 2, rfl⟩

set_option maxHeartbeats 1000000 in
set_option maxRecDepth 100000 in
theorem up_walk_3_3 (bt bf s t : Nat) (f0 f1 f2 t0 t1 t2 t3 z0 z1 z2 : Int) (w : World) (hR : RowAt w bt) (hne : ¬ bf = bt) (h1 : 64 - (s : Int) = (t : Int)) (hs : (s : Int) ≤ 63) (ht : (t : Int) ≤ 64) (c0 : w.cell? ⟨bf, 0, none⟩ = some (.int .u64 f0)) (c1 : w.cell? ⟨bf, 1, none⟩ = some (.int .u64 f1)) (c2 : w.cell? ⟨bf, 2, none⟩ = some (.int .u64 f2)) (e0 : Go.bits .or .u64 (IntKind.u64.wrap (f0 * 2 ^ s)) (0) = z0) (e1 : Go.bits .or .u64 (IntKind.u64.wrap (f1 * 2 ^ s)) (f0 / 2 ^ t) = z1) (e2 : Go.bits .or .u64 (IntKind.u64.wrap (f2 * 2 ^ s)) (f1 / 2 ^ t) = z2) :
    Calls Try.prog 39 #[.slice (some ⟨bt, 0, none⟩) 3 4, .slice (some ⟨bf, 0, none⟩) 3 4, .int .i64 (s : Int)] (w.setRow bt #[.int .u64 t0, .int .u64 t1, .int .u64 t2, .int .u64 t3]) fun e w' => e = .returned (.tuple #[]) ∧ ∃ n, w' = (w.setRow bt #[.int .u64 z0, .int .u64 z1, .int .u64 z2, .int .u64 t3]).drewN n := by
  go_enter Try.func39, Try.ntmps39
  go_wp2_with fail
  refine wp_loop_rounds 4 ?_
  rw [rounds_succ]
  go_wp2_with fail
  go_region
  go_wp2_with fail
  rw [rounds_succ]
  go_wp2_with fail
  go_region
  go_wp2_with fail
  rw [rounds_succ]
  go_wp2_with fail
  go_region
  go_wp2_with fail
  rw [rounds_succ]
  go_wp2_with fail
  go_end0
  exact ⟨rfl, 3, rfl⟩

set_option maxHeartbeats 1000000 in
set_option maxRecDepth 100000 in
theorem up_walk_4_4 (bt bf s t : Nat) (f0 f1 f2 f3 t0 t1 t2 t3 z0 z1 z2 z3 : Int) (w : World) (hR : RowAt w bt) (hne : ¬ bf = bt) (h1 : 64 - (s : Int) = (t : Int)) (hs : (s : Int) ≤ 63) (ht : (t : Int) ≤ 64) (c0 : w.cell? ⟨bf, 0, none⟩ = some (.int .u64 f0)) (c1 : w.cell? ⟨bf, 1, none⟩ = some (.int .u64 f1)) (c2 : w.cell? ⟨bf, 2, none⟩ = some (.int .u64 f2)) (c3 : w.cell? ⟨bf, 3, none⟩ = some (.int .u64 f3)) (e0 : Go.bits .or .u64 (IntKind.u64.wrap (f0 * 2 ^ s)) (0) = z0) (e1 : Go.bits .or .u64 (IntKind.u64.wrap (f1 * 2 ^ s)) (f0 / 2 ^ t) = z1) (e2 : Go.bits .or .u64 (IntKind.u64.wrap (f2 * 2 ^ s)) (f1 / 2 ^ t) = z2) (e3 : Go.bits .or .u64 (IntKind.u64.wrap (f3 * 2 ^ s)) (f2 / 2 ^ t) = z3) :
    Calls Try.prog 39 #[.slice (some ⟨bt, 0, none⟩) 4 4, .slice (some ⟨bf, 0, none⟩) 4 4, .int .i64 (s : Int)] (w.setRow bt #[.int .u64 t0, .int .u64 t1, .int .u64 t2, .int .u64 t3]) fun e w' => e = .returned (.tuple #[]) ∧ ∃ n, w' = (w.setRow bt #[.int .u64 z0, .int .u64 z1, .int .u64 z2, .int .u64 z3]).drewN n := by
  go_enter Try.func39, Try.ntmps39
  go_wp2_with fail
  refine wp_loop_rounds 5 ?_
  rw [rounds_succ]
  go_wp2_with fail
  go_region
  go_wp2_with fail
  rw [rounds_succ]
  go_wp2_with fail
  go_region
  go_wp2_with fail
  rw [rounds_succ]
  go_wp2_with fail
  go_region
  go_wp2_with fail
  rw [rounds_succ]
  go_wp2_with fail
  go_region
  go_wp2_with fail
  rw [rounds_succ]
  go_wp2_with fail
  go_end0
  exact ⟨rfl, 4, rfl⟩
end Go.Proofs.Ytgjdegahofoalaa.Wide

/- wide.up, as numbers: n's limbs become those of n * 2^s. -/
namespace Go.Proofs.Ytgjdegahofoalaa.Wide
open Go.RowKit
def L8 (n : Int) : Int := lo (hi (hi (hi (hi (hi (hi (hi (hi n))))))))
/-- One limb of a number that is moved up. -/
theorem up_step {P R : Int} (g c : Int) (hP : 0 < P) (hR : 0 < R) (hPR : P * R = 18446744073709551616) (hc0 : 0 ≤ c) (hc : c < P) (s : Nat) (hs : (2 : Int) ^ s = P) (hs64 : s ≤ 64) :
    Go.bits .or .u64 (IntKind.u64.wrap (lo g * P)) c = lo (g * P + c) ∧ hi (g * P + c) = hi g * P + lo g / R ∧ 0 ≤ lo g / R ∧ lo g / R < P := by
  have hg := lo_hi g
  have hl := lo_u g
  obtain ⟨f, hf⟩ : ∃ f, f = lo g := ⟨_, rfl⟩
  rw [← hf] at hg hl ⊢
  have h1 := Int.mul_ediv_add_emod f R
  have h2 := Int.emod_nonneg f (show R ≠ 0 by omega)
  have h3 := Int.emod_lt_of_pos f hR
  have h4 : 0 ≤ f / R := Int.ediv_nonneg hl.1 (by omega)
  have h5 : f / R < P := by rw [Int.ediv_lt_iff_lt_mul hR, hPR]; exact hl.2
  -- f * P in two parts
  have e1 : f * P = 18446744073709551616 * (f / R) + (f % R) * P := by
    have : f * P = (R * (f / R) + f % R) * P := by rw [h1]
    rw [this, Int.add_mul, ← hPR, Int.mul_right_comm, Int.mul_comm R P]
  have e2 : 0 ≤ (f % R) * P := Int.mul_nonneg h2 (by omega)
  have e3 : (f % R) * P + P ≤ 18446744073709551616 := by
    have : (f % R + 1) * P ≤ R * P := Int.mul_le_mul_of_nonneg_right (by omega) (by omega)
    rw [Int.add_mul, Int.one_mul, Int.mul_comm R P, hPR] at this
    exact this
  have e4 : g * P = f * P + 18446744073709551616 * (hi g * P) := by
    have : g * P = (f + 18446744073709551616 * hi g) * P := by rw [hg]
    rw [this, Int.add_mul, Int.mul_assoc]
  obtain ⟨B, hB⟩ : ∃ B, B = (f % R) * P := ⟨_, rfl⟩
  obtain ⟨A, hA⟩ : ∃ A, A = f / R := ⟨_, rfl⟩
  obtain ⟨C, hC⟩ : ∃ C, C = hi g * P := ⟨_, rfl⟩
  rw [← hB] at e1 e2 e3
  rw [← hA] at e1 h4 h5 ⊢
  rw [← hC] at e4 ⊢
  have w1 : IntKind.u64.wrap (f * P) = B := by rw [wrap_lo, e1]; unfold lo; omega
  have hmod : B % P = 0 := by rw [hB]; exact Int.mul_emod_left _ _
  have hor : Go.bits .or .u64 B c = B + c := by
    have hk : ∀ n : Int, 0 ≤ n → n < 2 ^ 64 → IntKind.u64.wrap n = n := by
      intro n h0 h1
      have h1' : n < 18446744073709551616 := h1
      rw [wrap_lo]; unfold lo; omega
    have e64 : (2 : Int) ^ 64 = 18446744073709551616 := rfl
    exact bits_join .u64 64 (by decide) hk s B c e2 (by rw [hs]; exact hmod) (by rw [e64]; omega) hc0 (by rw [hs]; exact hc) (by rw [e64]; omega)
  refine ⟨?_, ?_, h4, h5⟩
  · rw [w1, hor, e4, e1]; unfold lo; omega
  · rw [e4, e1]; unfold hi; omega
theorem up_calls_9_8 (bt bf s t : Nat) {n : Int} (t0 t1 t2 t3 t4 t5 t6 t7 t8 : Int) (ty : TypeId) (w : World) (hbt : BlkAt w bt #[.int .u64 t0, .int .u64 t1, .int .u64 t2, .int .u64 t3, .int .u64 t4, .int .u64 t5, .int .u64 t6, .int .u64 t7, .int .u64 t8] ty) (hne : ¬ bf = bt) (h1 : 64 - (s : Int) = (t : Int)) (hs : (s : Int) ≤ 63) (hn : (hi (hi (hi (hi (hi (hi (hi (hi n)))))))) = 0) (c0 : w.cell? ⟨bf, 0, none⟩ = some (.int .u64 (L0 n))) (c1 : w.cell? ⟨bf, 1, none⟩ = some (.int .u64 (L1 n))) (c2 : w.cell? ⟨bf, 2, none⟩ = some (.int .u64 (L2 n))) (c3 : w.cell? ⟨bf, 3, none⟩ = some (.int .u64 (L3 n))) (c4 : w.cell? ⟨bf, 4, none⟩ = some (.int .u64 (L4 n))) (c5 : w.cell? ⟨bf, 5, none⟩ = some (.int .u64 (L5 n))) (c6 : w.cell? ⟨bf, 6, none⟩ = some (.int .u64 (L6 n))) (c7 : w.cell? ⟨bf, 7, none⟩ = some (.int .u64 (L7 n))) :
    Calls Try.prog 39 #[.slice (some ⟨bt, 0, none⟩) 9 9, .slice (some ⟨bf, 0, none⟩) 8 8, .int .i64 (s : Int)] w fun e w' => e = .returned (.tuple #[]) ∧ ∃ m, w' = (w.setRow bt #[.int .u64 (L0 (n * 2 ^ s)), .int .u64 (L1 (n * 2 ^ s)), .int .u64 (L2 (n * 2 ^ s)), .int .u64 (L3 (n * 2 ^ s)), .int .u64 (L4 (n * 2 ^ s)), .int .u64 (L5 (n * 2 ^ s)), .int .u64 (L6 (n * 2 ^ s)), .int .u64 (L7 (n * 2 ^ s)), .int .u64 (L8 (n * 2 ^ s))]).drewN m := by
  have hP : (0 : Int) < 2 ^ s := Int.pow_pos (by decide)
  have hR : (0 : Int) < 2 ^ t := Int.pow_pos (by decide)
  have hPR : (2 : Int) ^ s * 2 ^ t = 18446744073709551616 := by
    rw [← Int.pow_add, show s + t = 64 by omega]
    rfl
  have s0 := up_step n 0 hP hR hPR (by omega) hP s rfl (by omega)
  rw [Int.add_zero] at s0
  have s1 := up_step (hi n) (L0 n / 2 ^ t) hP hR hPR s0.2.2.1 s0.2.2.2 s rfl (by omega)
  have k1 : (hi (n * 2 ^ s)) = (hi n) * 2 ^ s + L0 n / 2 ^ t := by exact s0.2.1
  have s2 := up_step (hi (hi n)) (L1 n / 2 ^ t) hP hR hPR s1.2.2.1 s1.2.2.2 s rfl (by omega)
  have k2 : (hi (hi (n * 2 ^ s))) = (hi (hi n)) * 2 ^ s + L1 n / 2 ^ t := by rw [k1]; exact s1.2.1
  have s3 := up_step (hi (hi (hi n))) (L2 n / 2 ^ t) hP hR hPR s2.2.2.1 s2.2.2.2 s rfl (by omega)
  have k3 : (hi (hi (hi (n * 2 ^ s)))) = (hi (hi (hi n))) * 2 ^ s + L2 n / 2 ^ t := by rw [k2]; exact s2.2.1
  have s4 := up_step (hi (hi (hi (hi n)))) (L3 n / 2 ^ t) hP hR hPR s3.2.2.1 s3.2.2.2 s rfl (by omega)
  have k4 : (hi (hi (hi (hi (n * 2 ^ s))))) = (hi (hi (hi (hi n)))) * 2 ^ s + L3 n / 2 ^ t := by rw [k3]; exact s3.2.1
  have s5 := up_step (hi (hi (hi (hi (hi n))))) (L4 n / 2 ^ t) hP hR hPR s4.2.2.1 s4.2.2.2 s rfl (by omega)
  have k5 : (hi (hi (hi (hi (hi (n * 2 ^ s)))))) = (hi (hi (hi (hi (hi n))))) * 2 ^ s + L4 n / 2 ^ t := by rw [k4]; exact s4.2.1
  have s6 := up_step (hi (hi (hi (hi (hi (hi n)))))) (L5 n / 2 ^ t) hP hR hPR s5.2.2.1 s5.2.2.2 s rfl (by omega)
  have k6 : (hi (hi (hi (hi (hi (hi (n * 2 ^ s))))))) = (hi (hi (hi (hi (hi (hi n)))))) * 2 ^ s + L5 n / 2 ^ t := by rw [k5]; exact s5.2.1
  have s7 := up_step (hi (hi (hi (hi (hi (hi (hi n))))))) (L6 n / 2 ^ t) hP hR hPR s6.2.2.1 s6.2.2.2 s rfl (by omega)
  have k7 : (hi (hi (hi (hi (hi (hi (hi (n * 2 ^ s)))))))) = (hi (hi (hi (hi (hi (hi (hi n))))))) * 2 ^ s + L6 n / 2 ^ t := by rw [k6]; exact s6.2.1
  have k8 : (hi (hi (hi (hi (hi (hi (hi (hi (n * 2 ^ s))))))))) = (hi (hi (hi (hi (hi (hi (hi (hi n)))))))) * 2 ^ s + L7 n / 2 ^ t := by rw [k7]; exact s7.2.1
  have z0 : Go.bits .or .u64 (IntKind.u64.wrap (L0 n * 2 ^ s)) 0 = L0 (n * 2 ^ s) := s0.1
  have z1 : Go.bits .or .u64 (IntKind.u64.wrap (L1 n * 2 ^ s)) (L0 n / 2 ^ t) = L1 (n * 2 ^ s) := by show _ = lo (hi (n * 2 ^ s)); rw [k1]; exact s1.1
  have z2 : Go.bits .or .u64 (IntKind.u64.wrap (L2 n * 2 ^ s)) (L1 n / 2 ^ t) = L2 (n * 2 ^ s) := by show _ = lo (hi (hi (n * 2 ^ s))); rw [k2]; exact s2.1
  have z3 : Go.bits .or .u64 (IntKind.u64.wrap (L3 n * 2 ^ s)) (L2 n / 2 ^ t) = L3 (n * 2 ^ s) := by show _ = lo (hi (hi (hi (n * 2 ^ s)))); rw [k3]; exact s3.1
  have z4 : Go.bits .or .u64 (IntKind.u64.wrap (L4 n * 2 ^ s)) (L3 n / 2 ^ t) = L4 (n * 2 ^ s) := by show _ = lo (hi (hi (hi (hi (n * 2 ^ s))))); rw [k4]; exact s4.1
  have z5 : Go.bits .or .u64 (IntKind.u64.wrap (L5 n * 2 ^ s)) (L4 n / 2 ^ t) = L5 (n * 2 ^ s) := by show _ = lo (hi (hi (hi (hi (hi (n * 2 ^ s)))))); rw [k5]; exact s5.1
  have z6 : Go.bits .or .u64 (IntKind.u64.wrap (L6 n * 2 ^ s)) (L5 n / 2 ^ t) = L6 (n * 2 ^ s) := by show _ = lo (hi (hi (hi (hi (hi (hi (n * 2 ^ s))))))); rw [k6]; exact s6.1
  have z7 : Go.bits .or .u64 (IntKind.u64.wrap (L7 n * 2 ^ s)) (L6 n / 2 ^ t) = L7 (n * 2 ^ s) := by show _ = lo (hi (hi (hi (hi (hi (hi (hi (n * 2 ^ s)))))))); rw [k7]; exact s7.1
  have z8 : Go.bits .or .u64 0 (L7 n / 2 ^ t) = L8 (n * 2 ^ s) := by
    show _ = lo (hi (hi (hi (hi (hi (hi (hi (hi (n * 2 ^ s)))))))))
    have q := up_step 0 (L7 n / 2 ^ t) hP hR hPR s7.2.2.1 s7.2.2.2 s rfl (by omega)
    rw [k8, hn]
    have q1 := q.1
    rw [show IntKind.u64.wrap (lo 0 * 2 ^ s) = 0 by rw [show lo 0 = 0 from rfl, Int.zero_mul]; rfl] at q1
    exact q1
  exact calls_row hbt (up_walk_9_8 bt bf s t _ _ _ _ _ _ _ _ t0 t1 t2 t3 t4 t5 t6 t7 t8 _ _ _ _ _ _ _ _ _ w (.of_cell hbt) hne h1 hs (by omega) c0 c1 c2 c3 c4 c5 c6 c7 z0 z1 z2 z3 z4 z5 z6 z7 z8)

theorem up_calls_1_1 (bt bf s t : Nat) {n : Int} (t0 t1 t2 t3 : Int) (ty : TypeId) (w : World) (hbt : BlkAt w bt #[.int .u64 t0, .int .u64 t1, .int .u64 t2, .int .u64 t3] ty) (hne : ¬ bf = bt) (h1 : 64 - (s : Int) = (t : Int)) (hs : (s : Int) ≤ 63) (hn : (hi n) = 0) (c0 : w.cell? ⟨bf, 0, none⟩ = some (.int .u64 (L0 n))) :
    Calls Try.prog 39 #[.slice (some ⟨bt, 0, none⟩) 1 4, .slice (some ⟨bf, 0, none⟩) 1 4, .int .i64 (s : Int)] w fun e w' => e = .returned (.tuple #[]) ∧ ∃ m, w' = (w.setRow bt #[.int .u64 (L0 (n * 2 ^ s)), .int .u64 t1, .int .u64 t2, .int .u64 t3]).drewN m := by
  have hP : (0 : Int) < 2 ^ s := Int.pow_pos (by decide)
  have hR : (0 : Int) < 2 ^ t := Int.pow_pos (by decide)
  have hPR : (2 : Int) ^ s * 2 ^ t = 18446744073709551616 := by
    rw [← Int.pow_add, show s + t = 64 by omega]
    rfl
  have s0 := up_step n 0 hP hR hPR (by omega) hP s rfl (by omega)
  rw [Int.add_zero] at s0
  have z0 : Go.bits .or .u64 (IntKind.u64.wrap (L0 n * 2 ^ s)) 0 = L0 (n * 2 ^ s) := s0.1
  exact calls_row hbt (up_walk_1_1 bt bf s t _ t0 t1 t2 t3 _ w (.of_cell hbt) hne h1 hs (by omega) c0 z0)

theorem up_calls_2_2 (bt bf s t : Nat) {n : Int} (t0 t1 t2 t3 : Int) (ty : TypeId) (w : World) (hbt : BlkAt w bt #[.int .u64 t0, .int .u64 t1, .int .u64 t2, .int .u64 t3] ty) (hne : ¬ bf = bt) (h1 : 64 - (s : Int) = (t : Int)) (hs : (s : Int) ≤ 63) (hn : (hi (hi n)) = 0) (c0 : w.cell? ⟨bf, 0, none⟩ = some (.int .u64 (L0 n))) (c1 : w.cell? ⟨bf, 1, none⟩ = some (.int .u64 (L1 n))) :
    Calls Try.prog 39 #[.slice (some ⟨bt, 0, none⟩) 2 4, .slice (some ⟨bf, 0, none⟩) 2 4, .int .i64 (s : Int)] w fun e w' => e = .returned (.tuple #[]) ∧ ∃ m, w' = (w.setRow bt #[.int .u64 (L0 (n * 2 ^ s)), .int .u64 (L1 (n * 2 ^ s)), .int .u64 t2, .int .u64 t3]).drewN m := by
  have hP : (0 : Int) < 2 ^ s := Int.pow_pos (by decide)
  have hR : (0 : Int) < 2 ^ t := Int.pow_pos (by decide)
  have hPR : (2 : Int) ^ s * 2 ^ t = 18446744073709551616 := by
    rw [← Int.pow_add, show s + t = 64 by omega]
    rfl
  have s0 := up_step n 0 hP hR hPR (by omega) hP s rfl (by omega)
  rw [Int.add_zero] at s0
  have s1 := up_step (hi n) (L0 n / 2 ^ t) hP hR hPR s0.2.2.1 s0.2.2.2 s rfl (by omega)
  have k1 : (hi (n * 2 ^ s)) = (hi n) * 2 ^ s + L0 n / 2 ^ t := by exact s0.2.1
  have z0 : Go.bits .or .u64 (IntKind.u64.wrap (L0 n * 2 ^ s)) 0 = L0 (n * 2 ^ s) := s0.1
  have z1 : Go.bits .or .u64 (IntKind.u64.wrap (L1 n * 2 ^ s)) (L0 n / 2 ^ t) = L1 (n * 2 ^ s) := by show _ = lo (hi (n * 2 ^ s)); rw [k1]; exact s1.1
  exact calls_row hbt (up_walk_2_2 bt bf s t _ _ t0 t1 t2 t3 _ _ w (.of_cell hbt) hne h1 hs (by omega) c0 c1 z0 z1)

theorem up_calls_3_3 (bt bf s t : Nat) {n : Int} (t0 t1 t2 t3 : Int) (ty : TypeId) (w : World) (hbt : BlkAt w bt #[.int .u64 t0, .int .u64 t1, .int .u64 t2, .int .u64 t3] ty) (hne : ¬ bf = bt) (h1 : 64 - (s : Int) = (t : Int)) (hs : (s : Int) ≤ 63) (hn : (hi (hi (hi n))) = 0) (c0 : w.cell? ⟨bf, 0, none⟩ = some (.int .u64 (L0 n))) (c1 : w.cell? ⟨bf, 1, none⟩ = some (.int .u64 (L1 n))) (c2 : w.cell? ⟨bf, 2, none⟩ = some (.int .u64 (L2 n))) :
    Calls Try.prog 39 #[.slice (some ⟨bt, 0, none⟩) 3 4, .slice (some ⟨bf, 0, none⟩) 3 4, .int .i64 (s : Int)] w fun e w' => e = .returned (.tuple #[]) ∧ ∃ m, w' = (w.setRow bt #[.int .u64 (L0 (n * 2 ^ s)), .int .u64 (L1 (n * 2 ^ s)), .int .u64 (L2 (n * 2 ^ s)), .int .u64 t3]).drewN m := by
  have hP : (0 : Int) < 2 ^ s := Int.pow_pos (by decide)
  have hR : (0 : Int) < 2 ^ t := Int.pow_pos (by decide)
  have hPR : (2 : Int) ^ s * 2 ^ t = 18446744073709551616 := by
    rw [← Int.pow_add, show s + t = 64 by omega]
    rfl
  have s0 := up_step n 0 hP hR hPR (by omega) hP s rfl (by omega)
  rw [Int.add_zero] at s0
  have s1 := up_step (hi n) (L0 n / 2 ^ t) hP hR hPR s0.2.2.1 s0.2.2.2 s rfl (by omega)
  have k1 : (hi (n * 2 ^ s)) = (hi n) * 2 ^ s + L0 n / 2 ^ t := by exact s0.2.1
  have s2 := up_step (hi (hi n)) (L1 n / 2 ^ t) hP hR hPR s1.2.2.1 s1.2.2.2 s rfl (by omega)
  have k2 : (hi (hi (n * 2 ^ s))) = (hi (hi n)) * 2 ^ s + L1 n / 2 ^ t := by rw [k1]; exact s1.2.1
  have z0 : Go.bits .or .u64 (IntKind.u64.wrap (L0 n * 2 ^ s)) 0 = L0 (n * 2 ^ s) := s0.1
  have z1 : Go.bits .or .u64 (IntKind.u64.wrap (L1 n * 2 ^ s)) (L0 n / 2 ^ t) = L1 (n * 2 ^ s) := by show _ = lo (hi (n * 2 ^ s)); rw [k1]; exact s1.1
  have z2 : Go.bits .or .u64 (IntKind.u64.wrap (L2 n * 2 ^ s)) (L1 n / 2 ^ t) = L2 (n * 2 ^ s) := by show _ = lo (hi (hi (n * 2 ^ s))); rw [k2]; exact s2.1
  exact calls_row hbt (up_walk_3_3 bt bf s t _ _ _ t0 t1 t2 t3 _ _ _ w (.of_cell hbt) hne h1 hs (by omega) c0 c1 c2 z0 z1 z2)

theorem up_calls_4_4 (bt bf s t : Nat) {n : Int} (t0 t1 t2 t3 : Int) (ty : TypeId) (w : World) (hbt : BlkAt w bt #[.int .u64 t0, .int .u64 t1, .int .u64 t2, .int .u64 t3] ty) (hne : ¬ bf = bt) (h1 : 64 - (s : Int) = (t : Int)) (hs : (s : Int) ≤ 63) (hn : (hi (hi (hi (hi n)))) = 0) (c0 : w.cell? ⟨bf, 0, none⟩ = some (.int .u64 (L0 n))) (c1 : w.cell? ⟨bf, 1, none⟩ = some (.int .u64 (L1 n))) (c2 : w.cell? ⟨bf, 2, none⟩ = some (.int .u64 (L2 n))) (c3 : w.cell? ⟨bf, 3, none⟩ = some (.int .u64 (L3 n))) :
    Calls Try.prog 39 #[.slice (some ⟨bt, 0, none⟩) 4 4, .slice (some ⟨bf, 0, none⟩) 4 4, .int .i64 (s : Int)] w fun e w' => e = .returned (.tuple #[]) ∧ ∃ m, w' = (w.setRow bt #[.int .u64 (L0 (n * 2 ^ s)), .int .u64 (L1 (n * 2 ^ s)), .int .u64 (L2 (n * 2 ^ s)), .int .u64 (L3 (n * 2 ^ s))]).drewN m := by
  have hP : (0 : Int) < 2 ^ s := Int.pow_pos (by decide)
  have hR : (0 : Int) < 2 ^ t := Int.pow_pos (by decide)
  have hPR : (2 : Int) ^ s * 2 ^ t = 18446744073709551616 := by
    rw [← Int.pow_add, show s + t = 64 by omega]
    rfl
  have s0 := up_step n 0 hP hR hPR (by omega) hP s rfl (by omega)
  rw [Int.add_zero] at s0
  have s1 := up_step (hi n) (L0 n / 2 ^ t) hP hR hPR s0.2.2.1 s0.2.2.2 s rfl (by omega)
  have k1 : (hi (n * 2 ^ s)) = (hi n) * 2 ^ s + L0 n / 2 ^ t := by exact s0.2.1
  have s2 := up_step (hi (hi n)) (L1 n / 2 ^ t) hP hR hPR s1.2.2.1 s1.2.2.2 s rfl (by omega)
  have k2 : (hi (hi (n * 2 ^ s))) = (hi (hi n)) * 2 ^ s + L1 n / 2 ^ t := by rw [k1]; exact s1.2.1
  have s3 := up_step (hi (hi (hi n))) (L2 n / 2 ^ t) hP hR hPR s2.2.2.1 s2.2.2.2 s rfl (by omega)
  have k3 : (hi (hi (hi (n * 2 ^ s)))) = (hi (hi (hi n))) * 2 ^ s + L2 n / 2 ^ t := by rw [k2]; exact s2.2.1
  have z0 : Go.bits .or .u64 (IntKind.u64.wrap (L0 n * 2 ^ s)) 0 = L0 (n * 2 ^ s) := s0.1
  have z1 : Go.bits .or .u64 (IntKind.u64.wrap (L1 n * 2 ^ s)) (L0 n / 2 ^ t) = L1 (n * 2 ^ s) := by show _ = lo (hi (n * 2 ^ s)); rw [k1]; exact s1.1
  have z2 : Go.bits .or .u64 (IntKind.u64.wrap (L2 n * 2 ^ s)) (L1 n / 2 ^ t) = L2 (n * 2 ^ s) := by show _ = lo (hi (hi (n * 2 ^ s))); rw [k2]; exact s2.1
  have z3 : Go.bits .or .u64 (IntKind.u64.wrap (L3 n * 2 ^ s)) (L2 n / 2 ^ t) = L3 (n * 2 ^ s) := by show _ = lo (hi (hi (hi (n * 2 ^ s)))); rw [k3]; exact s3.1
  exact calls_row hbt (up_walk_4_4 bt bf s t _ _ _ _ t0 t1 t2 t3 _ _ _ _ w (.of_cell hbt) hne h1 hs (by omega) c0 c1 c2 c3 z0 z1 z2 z3)
end Go.Proofs.Ytgjdegahofoalaa.Wide

/- Plain numbers: a long division by limbs, and what is moved down again. -/
namespace Go.Proofs.Ytgjdegahofoalaa
open Go.RowKit
theorem bits_or_comm (x y : Int) : Go.bits .or .u64 x y = Go.bits .or .u64 y x := by
  show IntKind.u64.wrap _ = IntKind.u64.wrap _
  rw [BitVec.or_comm]
theorem wrap_id64 (n : Int) (h0 : 0 ≤ n) (h1 : n < 2 ^ 64) : IntKind.u64.wrap n = n := by
  have h1' : n < 18446744073709551616 := h1
  rw [wrap_lo]; unfold lo; omega
/-- One limb moved up, and the limb that comes back by moving down. -/
theorem low_of {P R : Int} (g c : Int) (hP : 0 < P) (hR : 0 < R) (hPR : P * R = 18446744073709551616) (hc0 : 0 ≤ c) (hc : c < P) : lo (g * P + c) = (lo g % R) * P + c := by
  have hg := lo_hi g
  have hl := lo_u g
  obtain ⟨f, hf⟩ : ∃ f, f = lo g := ⟨_, rfl⟩
  rw [← hf] at hg hl ⊢
  have h1 := Int.mul_ediv_add_emod f R
  have h2 := Int.emod_nonneg f (show R ≠ 0 by omega)
  have h3 := Int.emod_lt_of_pos f hR
  have e1 : f * P = 18446744073709551616 * (f / R) + (f % R) * P := by
    have : f * P = (R * (f / R) + f % R) * P := by rw [h1]
    rw [this, Int.add_mul, ← hPR, Int.mul_right_comm, Int.mul_comm R P]
  have e2 : 0 ≤ (f % R) * P := Int.mul_nonneg h2 (by omega)
  have e3 : (f % R) * P + P ≤ 18446744073709551616 := by
    have : (f % R + 1) * P ≤ R * P := Int.mul_le_mul_of_nonneg_right (by omega) (by omega)
    rw [Int.add_mul, Int.one_mul, Int.mul_comm R P, hPR] at this
    exact this
  have e4 : g * P = f * P + 18446744073709551616 * (hi g * P) := by
    have : g * P = (f + 18446744073709551616 * hi g) * P := by rw [hg]
    rw [this, Int.add_mul, Int.mul_assoc]
  rw [e4, e1]
  generalize (f % R) * P = B at *
  generalize f / R = A at *
  generalize hi g * P = C at *
  unfold lo
  omega
theorem down_step {P R : Int} (g c g' : Int) (hP : 0 < P) (hR : 0 < R) (hPR : P * R = 18446744073709551616) (hc0 : 0 ≤ c) (hc : c < P) (t : Nat) (ht : (2 : Int) ^ t = R) :
    Go.bits .or .u64 (lo (g * P + c) / P) (IntKind.u64.wrap (lo (g' * P + lo g / R) * R)) = lo g := by
  have hl := lo_u g
  have q0 : 0 ≤ lo g / R := Int.ediv_nonneg hl.1 (by omega)
  have q1 : lo g / R < P := by rw [Int.ediv_lt_iff_lt_mul hR, hPR]; exact hl.2
  rw [low_of g c hP hR hPR hc0 hc, low_of g' (lo g / R) hP hR hPR q0 q1]
  have h2 := Int.emod_nonneg (lo g) (show R ≠ 0 by omega)
  have h3 := Int.emod_lt_of_pos (lo g) hR
  have h1 := Int.mul_ediv_add_emod (lo g) R
  have e1 : ((lo g % R) * P + c) / P = lo g % R := by
    rw [Int.add_comm, Int.add_mul_ediv_right _ _ (by omega), Int.ediv_eq_zero_of_lt hc0 hc]; omega
  have e2 : IntKind.u64.wrap (((lo g' % R) * P + lo g / R) * R) = R * (lo g / R) := by
    rw [wrap_lo, Int.add_mul, Int.mul_assoc, hPR, Int.mul_comm (lo g / R) R]
    have b := hl.2
    have : 0 ≤ R * (lo g / R) := Int.mul_nonneg (by omega) q0
    generalize R * (lo g / R) = A at *
    unfold lo at *
    omega
  rw [e1, e2, bits_or_comm]
  have e64 : (2 : Int) ^ 64 = 18446744073709551616 := rfl
  have hA : 0 ≤ R * (lo g / R) := Int.mul_nonneg (by omega) q0
  have b := hl.2
  rw [bits_join .u64 64 (by decide) wrap_id64 t (R * (lo g / R)) (lo g % R) hA (by rw [ht]; exact Int.mul_emod_right _ _) (by rw [e64]; omega) h2 (by rw [ht]; exact h3) (by rw [e64]; omega)]
  exact h1
theorem down_last {P R : Int} (g c : Int) (hP : 0 < P) (hR : 0 < R) (hPR : P * R = 18446744073709551616) (hc0 : 0 ≤ c) (hc : c < P) (h0 : lo g / R = 0) :
    Go.bits .or .u64 (lo (g * P + c) / P) 0 = lo g := by
  have hl := lo_u g
  rw [low_of g c hP hR hPR hc0 hc]
  have h2 := Int.emod_nonneg (lo g) (show R ≠ 0 by omega)
  have h3 := Int.emod_lt_of_pos (lo g) hR
  have h1 := Int.mul_ediv_add_emod (lo g) R
  rw [h0, Int.mul_zero, Int.zero_add] at h1
  have e1 : ((lo g % R) * P + c) / P = lo g % R := by
    rw [Int.add_comm, Int.add_mul_ediv_right _ _ (by omega), Int.ediv_eq_zero_of_lt hc0 hc]; omega
  rw [e1, h1]
  have e64 : (2 : Int) ^ 64 = 18446744073709551616 := rfl
  rw [bits_or_comm, bits_join .u64 64 (by decide) wrap_id64 64 0 (lo g) (by omega) (by decide) (by decide) hl.1 (by rw [e64]; exact hl.2) (by rw [e64]; exact hl.2)]
  omega
/-- A limb put below a number. -/
theorem put_low {a R : Int} (ha : U64 a) : lo (a + 18446744073709551616 * R) = a ∧ hi (a + 18446744073709551616 * R) = R := by
  unfold U64 at ha; unfold lo hi; omega
/-- The step of a long division: Horner's sum of the quotients. -/
theorem long_step {h h' T V R W Q R' a : Int} (e : h = a + 18446744073709551616 * h') (eT : h' = T * V + R) (eW : W = a + 18446744073709551616 * R) (eQ : V * Q + R' = W) : h = (Q + 18446744073709551616 * T) * V + R' := by
  rw [e, eT, Int.add_mul, Int.mul_comm Q V, Int.mul_assoc]
  generalize T * V = A at *
  generalize V * Q = B at *
  omega
end Go.Proofs.Ytgjdegahofoalaa
namespace Go.Proofs.Ytgjdegahofoalaa
open Go.RowKit
theorem up_step' {P R : Int} (g c : Int) (hP : 0 < P) (hR : 0 < R) (hPR : P * R = 18446744073709551616) (hc0 : 0 ≤ c) (hc : c < P) :
    hi (g * P + c) = hi g * P + lo g / R ∧ 0 ≤ lo g / R ∧ lo g / R < P := by
  have hl := lo_u g
  have q0 : 0 ≤ lo g / R := Int.ediv_nonneg hl.1 (by omega)
  have q1 : lo g / R < P := by rw [Int.ediv_lt_iff_lt_mul hR, hPR]; exact hl.2
  refine ⟨?_, q0, q1⟩
  have h := low_of g c hP hR hPR hc0 hc
  have h1 := Int.mul_ediv_add_emod (lo g) R
  have hg := lo_hi g
  have e1 : lo g * P = 18446744073709551616 * (lo g / R) + (lo g % R) * P := by
    have : lo g * P = (R * (lo g / R) + lo g % R) * P := by rw [h1]
    rw [this, Int.add_mul, ← hPR, Int.mul_right_comm, Int.mul_comm R P]
  have e4 : g * P = lo g * P + 18446744073709551616 * (hi g * P) := by
    have : g * P = (lo g + 18446744073709551616 * hi g) * P := by rw [hg]
    rw [this, Int.add_mul, Int.mul_assoc]
  have h5 := lo_hi (g * P + c)
  rw [h, e4, e1] at h5
  rw [e4, e1]
  generalize (lo g % R) * P = B at *
  generalize lo g / R = A at *
  generalize hi g * P = C at *
  omega
theorem div_shift' {N y P Q r : Int} (hP : 0 < P) (hy : 0 < y) (h : N * P = Q * (y * P) + r) (h0 : 0 ≤ r) (h1 : r < y * P) : N / y = Q ∧ r = (N % y) * P := by
  have e : r = P * (N - Q * y) := by
    have : P * (N - Q * y) = N * P - Q * (y * P) := by rw [Int.mul_sub, Int.mul_comm P N, Int.mul_comm P (Q * y), Int.mul_assoc]
    omega
  have e2 : r / P = N - Q * y := by rw [e]; exact Int.mul_ediv_cancel_left _ (by omega)
  have g0 : 0 ≤ N - Q * y := by rw [← e2]; exact Int.ediv_nonneg h0 (by omega)
  have g1 : N - Q * y < y := by
    rw [← e2]
    exact (Int.ediv_lt_iff_lt_mul hP).2 h1
  obtain ⟨a, b⟩ := div_of hy g0 g1
  exact ⟨a, by rw [b, Int.mul_comm]; exact e⟩
end Go.Proofs.Ytgjdegahofoalaa
