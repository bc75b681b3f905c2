/- wide.step: a limb of a quotient (3 limbs), as it computes it. -/
import Derived.Test.YtgjdegahofoalaaRow
import Derived.Test.YtgjdegahofoalaaLimb
import Derived.Test.YtgjdegahofoalaaSets
import Derived.Test.YtgjdegahofoalaaNum
set_option linter.unusedVariables false
set_option linter.unusedSimpArgs false
namespace Go.Proofs.Ytgjdegahofoalaa.Wide
open Go.RowKit

set_option maxHeartbeats 4000000 in
set_option maxRecDepth 100000 in
theorem step_walk_3_0 (bu off bv cu cv : Nat) (u0 u1 u2 u3 v0 v1 v2 g x0 o1 s0 b1 x1 o2 s1 b2 x2 o3 s2 b3 s3 bb rr : Int) (w : World) (hne : ¬ bv = bu) (D : Hid (∀ w, Calls Try.prog 42 #[.int .u64 u3, .int .u64 u2, .int .u64 v2] w fun e w' => e = .returned (.tuple #[.int .u64 g, .int .u64 rr, .int .i64 0]) ∧ ∃ n, w' = w.drewN n))
    (cu0 : w.cell? ⟨bu, off, none⟩ = some (.int .u64 u0)) (fu0 : w.frozen? ⟨bu, off, none⟩ = false) (uu0 : U64 u0)
    (cu1 : w.cell? ⟨bu, off + 1, none⟩ = some (.int .u64 u1)) (fu1 : w.frozen? ⟨bu, off + 1, none⟩ = false) (uu1 : U64 u1)
    (cu2 : w.cell? ⟨bu, off + 2, none⟩ = some (.int .u64 u2)) (fu2 : w.frozen? ⟨bu, off + 2, none⟩ = false) (uu2 : U64 u2)
    (cu3 : w.cell? ⟨bu, off + 3, none⟩ = some (.int .u64 u3)) (fu3 : w.frozen? ⟨bu, off + 3, none⟩ = false) (uu3 : U64 u3)
    (cv0 : w.cell? ⟨bv, 0, none⟩ = some (.int .u64 v0)) (uv0 : U64 v0)
    (cv1 : w.cell? ⟨bv, 1, none⟩ = some (.int .u64 v1)) (uv1 : U64 v1)
    (cv2 : w.cell? ⟨bv, 2, none⟩ = some (.int .u64 v2)) (uv2 : U64 v2)
    (ug : U64 g)
    (ex0 : lo (lo (g * v0)) = x0) (eo1 : IntKind.u64.wrap (hi (g * v0) + hi (lo (g * v0))) = o1) (es0 : lo (u0 - x0) = s0) (eb1 : -hi (u0 - x0) = b1) (ux0 : U64 x0) (uo1 : U64 o1) (us0 : U64 s0) (ub1 : bit01 b1)
    (ex1 : lo (lo (g * v1) + o1) = x1) (eo2 : IntKind.u64.wrap (hi (g * v1) + hi (lo (g * v1) + o1)) = o2) (es1 : lo (u1 - x1 - b1) = s1) (eb2 : -hi (u1 - x1 - b1) = b2) (ux1 : U64 x1) (uo2 : U64 o2) (us1 : U64 s1) (ub2 : bit01 b2)
    (ex2 : lo (lo (g * v2) + o2) = x2) (eo3 : IntKind.u64.wrap (hi (g * v2) + hi (lo (g * v2) + o2)) = o3) (es2 : lo (u2 - x2 - b2) = s2) (eb3 : -hi (u2 - x2 - b2) = b3) (ux2 : U64 x2) (uo3 : U64 o3) (us2 : U64 s2) (ub3 : bit01 b3)
    (es3 : lo (u3 - o3 - b3) = s3) (ebb : -hi (u3 - o3 - b3) = bb) (us3 : U64 s3)
    (tz : (bb == 0) = true) :
    Calls Try.prog 40 #[.slice (some ⟨bu, off, none⟩) 4 cu, .slice (some ⟨bv, 0, none⟩) 3 cv] w fun e w' => e = .returned (.int .u64 g) ∧ ∃ n, w' = ((((w.setCell ⟨bu, off, none⟩ (.int .u64 s0)).setCell ⟨bu, off + 1, none⟩ (.int .u64 s1)).setCell ⟨bu, off + 2, none⟩ (.int .u64 s2)).setCell ⟨bu, off + 3, none⟩ (.int .u64 s3)).drewN n := by
  have wk : IntKind.i64.wrap 2 = 2 := by rfl
  go_enter Try.func40, Try.ntmps40
  go_wp2_with fail
  refine wp_scope_rounds 0 1 rfl ?_
  go_wp2_with fail
  go_region_held3 (fun w' => w'.cell? ⟨bu, off + 3, none⟩ = some (.int .u64 u3) ∧ w'.cell? ⟨bu, off + 2, none⟩ = some (.int .u64 u2) ∧ w'.cell? ⟨bv, 2, none⟩ = some (.int .u64 v2)) ((refine ⟨?_, ?_, ?_⟩; all_goals go_simp))
    (first | (go_at_call 42; refine (D.out _).mono ?_; rintro e w1 ⟨rfl, n1, rfl⟩))
  go_wp2_with fail
  refine wp_loop_rounds 4 ?_
  rw [rounds_succ]
  go_wp2_with fail
  refine (Limb.mul_calls ug uv0 _).mono ?_
  rintro e w' ⟨rfl, rfl⟩
  go_wp2_with fail
  refine (Limb.add_calls (lo_u _) ⟨by decide, by decide⟩ (.inl rfl) _).mono ?_
  rintro e w' ⟨rfl, rfl⟩
  go_wp2_with fail
  refine (Limb.sub_calls uu0 ux0 (.inl rfl) _).mono ?_
  rintro e w' ⟨rfl, rfl⟩
  go_wp2_with fail
  rw [rounds_succ]
  go_wp2_with fail
  refine (Limb.mul_calls ug uv1 _).mono ?_
  rintro e w' ⟨rfl, rfl⟩
  go_wp2_with fail
  refine (Limb.add_calls (lo_u _) uo1 (.inl rfl) _).mono ?_
  rintro e w' ⟨rfl, rfl⟩
  go_wp2_with fail
  refine (Limb.sub_calls uu1 ux1 ub1 _).mono ?_
  rintro e w' ⟨rfl, rfl⟩
  go_wp2_with fail
  rw [rounds_succ]
  go_wp2_with fail
  refine (Limb.mul_calls ug uv2 _).mono ?_
  rintro e w' ⟨rfl, rfl⟩
  go_wp2_with fail
  refine (Limb.add_calls (lo_u _) uo2 (.inl rfl) _).mono ?_
  rintro e w' ⟨rfl, rfl⟩
  go_wp2_with fail
  refine (Limb.sub_calls uu2 ux2 ub2 _).mono ?_
  rintro e w' ⟨rfl, rfl⟩
  go_wp2_with fail
  rw [rounds_succ]
  go_wp2_with fail
  refine (Limb.sub_calls uu3 uo3 ub3 _).mono ?_
  rintro e w' ⟨rfl, rfl⟩
  go_wp2_with fail
  go_step3
  go_wp2_with fail
  simp only [Exit.jump]
  go_ret
  exact ⟨rfl, _, rfl⟩

set_option maxHeartbeats 4000000 in
set_option maxRecDepth 100000 in
theorem step_walk_3_0e (bu off bv cu cv : Nat) (u0 u1 u2 u3 v0 v1 v2 g x0 o1 s0 b1 x1 o2 s1 b2 x2 o3 s2 b3 s3 bb rr : Int) (w : World) (hne : ¬ bv = bu) (D : Hid (∀ w, Calls Try.prog 42 #[.int .u64 u3, .int .u64 u2, .int .u64 v2] w fun e w' => e = .returned (.tuple #[.int .u64 0, .int .u64 rr, .int .i64 2]) ∧ ∃ n, w' = w.drewN n))
    (cu0 : w.cell? ⟨bu, off, none⟩ = some (.int .u64 u0)) (fu0 : w.frozen? ⟨bu, off, none⟩ = false) (uu0 : U64 u0)
    (cu1 : w.cell? ⟨bu, off + 1, none⟩ = some (.int .u64 u1)) (fu1 : w.frozen? ⟨bu, off + 1, none⟩ = false) (uu1 : U64 u1)
    (cu2 : w.cell? ⟨bu, off + 2, none⟩ = some (.int .u64 u2)) (fu2 : w.frozen? ⟨bu, off + 2, none⟩ = false) (uu2 : U64 u2)
    (cu3 : w.cell? ⟨bu, off + 3, none⟩ = some (.int .u64 u3)) (fu3 : w.frozen? ⟨bu, off + 3, none⟩ = false) (uu3 : U64 u3)
    (cv0 : w.cell? ⟨bv, 0, none⟩ = some (.int .u64 v0)) (uv0 : U64 v0)
    (cv1 : w.cell? ⟨bv, 1, none⟩ = some (.int .u64 v1)) (uv1 : U64 v1)
    (cv2 : w.cell? ⟨bv, 2, none⟩ = some (.int .u64 v2)) (uv2 : U64 v2)
    (ug : U64 g)
    (ex0 : lo (lo (g * v0)) = x0) (eo1 : IntKind.u64.wrap (hi (g * v0) + hi (lo (g * v0))) = o1) (es0 : lo (u0 - x0) = s0) (eb1 : -hi (u0 - x0) = b1) (ux0 : U64 x0) (uo1 : U64 o1) (us0 : U64 s0) (ub1 : bit01 b1)
    (ex1 : lo (lo (g * v1) + o1) = x1) (eo2 : IntKind.u64.wrap (hi (g * v1) + hi (lo (g * v1) + o1)) = o2) (es1 : lo (u1 - x1 - b1) = s1) (eb2 : -hi (u1 - x1 - b1) = b2) (ux1 : U64 x1) (uo2 : U64 o2) (us1 : U64 s1) (ub2 : bit01 b2)
    (ex2 : lo (lo (g * v2) + o2) = x2) (eo3 : IntKind.u64.wrap (hi (g * v2) + hi (lo (g * v2) + o2)) = o3) (es2 : lo (u2 - x2 - b2) = s2) (eb3 : -hi (u2 - x2 - b2) = b3) (ux2 : U64 x2) (uo3 : U64 o3) (us2 : U64 s2) (ub3 : bit01 b3)
    (es3 : lo (u3 - o3 - b3) = s3) (ebb : -hi (u3 - o3 - b3) = bb) (us3 : U64 s3)
    (tz : (bb == 0) = true)
    (hg : (18446744073709551615 : Int) = g) :
    Calls Try.prog 40 #[.slice (some ⟨bu, off, none⟩) 4 cu, .slice (some ⟨bv, 0, none⟩) 3 cv] w fun e w' => e = .returned (.int .u64 g) ∧ ∃ n, w' = ((((w.setCell ⟨bu, off, none⟩ (.int .u64 s0)).setCell ⟨bu, off + 1, none⟩ (.int .u64 s1)).setCell ⟨bu, off + 2, none⟩ (.int .u64 s2)).setCell ⟨bu, off + 3, none⟩ (.int .u64 s3)).drewN n := by
  have wk : IntKind.i64.wrap 2 = 2 := by rfl
  go_enter Try.func40, Try.ntmps40
  go_wp2_with fail
  refine wp_scope_rounds 0 1 rfl ?_
  go_wp2_with fail
  go_region_held3 (fun w' => w'.cell? ⟨bu, off + 3, none⟩ = some (.int .u64 u3) ∧ w'.cell? ⟨bu, off + 2, none⟩ = some (.int .u64 u2) ∧ w'.cell? ⟨bv, 2, none⟩ = some (.int .u64 v2)) ((refine ⟨?_, ?_, ?_⟩; all_goals go_simp))
    (first | (go_at_call 42; refine (D.out _).mono ?_; rintro e w1 ⟨rfl, n1, rfl⟩))
  go_wp2_with fail
  refine wp_loop_rounds 4 ?_
  rw [rounds_succ]
  go_wp2_with fail
  refine (Limb.mul_calls ug uv0 _).mono ?_
  rintro e w' ⟨rfl, rfl⟩
  go_wp2_with fail
  refine (Limb.add_calls (lo_u _) ⟨by decide, by decide⟩ (.inl rfl) _).mono ?_
  rintro e w' ⟨rfl, rfl⟩
  go_wp2_with fail
  refine (Limb.sub_calls uu0 ux0 (.inl rfl) _).mono ?_
  rintro e w' ⟨rfl, rfl⟩
  go_wp2_with fail
  rw [rounds_succ]
  go_wp2_with fail
  refine (Limb.mul_calls ug uv1 _).mono ?_
  rintro e w' ⟨rfl, rfl⟩
  go_wp2_with fail
  refine (Limb.add_calls (lo_u _) uo1 (.inl rfl) _).mono ?_
  rintro e w' ⟨rfl, rfl⟩
  go_wp2_with fail
  refine (Limb.sub_calls uu1 ux1 ub1 _).mono ?_
  rintro e w' ⟨rfl, rfl⟩
  go_wp2_with fail
  rw [rounds_succ]
  go_wp2_with fail
  refine (Limb.mul_calls ug uv2 _).mono ?_
  rintro e w' ⟨rfl, rfl⟩
  go_wp2_with fail
  refine (Limb.add_calls (lo_u _) uo2 (.inl rfl) _).mono ?_
  rintro e w' ⟨rfl, rfl⟩
  go_wp2_with fail
  refine (Limb.sub_calls uu2 ux2 ub2 _).mono ?_
  rintro e w' ⟨rfl, rfl⟩
  go_wp2_with fail
  rw [rounds_succ]
  go_wp2_with fail
  refine (Limb.sub_calls uu3 uo3 ub3 _).mono ?_
  rintro e w' ⟨rfl, rfl⟩
  go_wp2_with fail
  go_step3
  go_wp2_with fail
  simp only [Exit.jump]
  go_ret
  exact ⟨rfl, _, rfl⟩

set_option maxHeartbeats 4000000 in
set_option maxRecDepth 100000 in
theorem step_walk_3_1 (bu off bv cu cv : Nat) (u0 u1 u2 u3 v0 v1 v2 g x0 o1 s0 b1 x1 o2 s1 b2 x2 o3 s2 b3 s3 bb p10 c11 p11 c12 p12 c13 p13 d1 g1 bb1 rr : Int) (w : World) (hne : ¬ bv = bu) (D : Hid (∀ w, Calls Try.prog 42 #[.int .u64 u3, .int .u64 u2, .int .u64 v2] w fun e w' => e = .returned (.tuple #[.int .u64 g, .int .u64 rr, .int .i64 0]) ∧ ∃ n, w' = w.drewN n))
    (cu0 : w.cell? ⟨bu, off, none⟩ = some (.int .u64 u0)) (fu0 : w.frozen? ⟨bu, off, none⟩ = false) (uu0 : U64 u0)
    (cu1 : w.cell? ⟨bu, off + 1, none⟩ = some (.int .u64 u1)) (fu1 : w.frozen? ⟨bu, off + 1, none⟩ = false) (uu1 : U64 u1)
    (cu2 : w.cell? ⟨bu, off + 2, none⟩ = some (.int .u64 u2)) (fu2 : w.frozen? ⟨bu, off + 2, none⟩ = false) (uu2 : U64 u2)
    (cu3 : w.cell? ⟨bu, off + 3, none⟩ = some (.int .u64 u3)) (fu3 : w.frozen? ⟨bu, off + 3, none⟩ = false) (uu3 : U64 u3)
    (cv0 : w.cell? ⟨bv, 0, none⟩ = some (.int .u64 v0)) (uv0 : U64 v0)
    (cv1 : w.cell? ⟨bv, 1, none⟩ = some (.int .u64 v1)) (uv1 : U64 v1)
    (cv2 : w.cell? ⟨bv, 2, none⟩ = some (.int .u64 v2)) (uv2 : U64 v2)
    (ug : U64 g)
    (ex0 : lo (lo (g * v0)) = x0) (eo1 : IntKind.u64.wrap (hi (g * v0) + hi (lo (g * v0))) = o1) (es0 : lo (u0 - x0) = s0) (eb1 : -hi (u0 - x0) = b1) (ux0 : U64 x0) (uo1 : U64 o1) (us0 : U64 s0) (ub1 : bit01 b1)
    (ex1 : lo (lo (g * v1) + o1) = x1) (eo2 : IntKind.u64.wrap (hi (g * v1) + hi (lo (g * v1) + o1)) = o2) (es1 : lo (u1 - x1 - b1) = s1) (eb2 : -hi (u1 - x1 - b1) = b2) (ux1 : U64 x1) (uo2 : U64 o2) (us1 : U64 s1) (ub2 : bit01 b2)
    (ex2 : lo (lo (g * v2) + o2) = x2) (eo3 : IntKind.u64.wrap (hi (g * v2) + hi (lo (g * v2) + o2)) = o3) (es2 : lo (u2 - x2 - b2) = s2) (eb3 : -hi (u2 - x2 - b2) = b3) (ux2 : U64 x2) (uo3 : U64 o3) (us2 : U64 s2) (ub3 : bit01 b3)
    (es3 : lo (u3 - o3 - b3) = s3) (ebb : -hi (u3 - o3 - b3) = bb) (us3 : U64 s3)
    (tb1 : (bb == 0) = false)
    (ep10 : lo (s0 + v0) = p10) (ec11 : hi (s0 + v0) = c11) (up10 : U64 p10) (uc11 : bit01 c11)
    (ep11 : lo (s1 + v1 + c11) = p11) (ec12 : hi (s1 + v1 + c11) = c12) (up11 : U64 p11) (uc12 : bit01 c12)
    (ep12 : lo (s2 + v2 + c12) = p12) (ec13 : hi (s2 + v2 + c12) = c13) (up12 : U64 p12) (uc13 : bit01 c13)
    (ep13 : lo (s3 + c13) = p13) (ed1 : hi (s3 + c13) = d1) (up13 : U64 p13) (eg1 : IntKind.u64.wrap (g - 1) = g1) (ebb1 : IntKind.u64.wrap (bb - d1) = bb1)
    (tz : (bb1 == 0) = true) :
    Calls Try.prog 40 #[.slice (some ⟨bu, off, none⟩) 4 cu, .slice (some ⟨bv, 0, none⟩) 3 cv] w fun e w' => e = .returned (.int .u64 g1) ∧ ∃ n, w' = ((((w.setCell ⟨bu, off, none⟩ (.int .u64 p10)).setCell ⟨bu, off + 1, none⟩ (.int .u64 p11)).setCell ⟨bu, off + 2, none⟩ (.int .u64 p12)).setCell ⟨bu, off + 3, none⟩ (.int .u64 p13)).drewN n := by
  have wk : IntKind.i64.wrap 2 = 2 := by rfl
  go_enter Try.func40, Try.ntmps40
  go_wp2_with fail
  refine wp_scope_rounds 0 2 rfl ?_
  go_wp2_with fail
  go_region_held3 (fun w' => w'.cell? ⟨bu, off + 3, none⟩ = some (.int .u64 u3) ∧ w'.cell? ⟨bu, off + 2, none⟩ = some (.int .u64 u2) ∧ w'.cell? ⟨bv, 2, none⟩ = some (.int .u64 v2)) ((refine ⟨?_, ?_, ?_⟩; all_goals go_simp))
    (first | (go_at_call 42; refine (D.out _).mono ?_; rintro e w1 ⟨rfl, n1, rfl⟩))
  go_wp2_with fail
  refine wp_loop_rounds 4 ?_
  rw [rounds_succ]
  go_wp2_with fail
  refine (Limb.mul_calls ug uv0 _).mono ?_
  rintro e w' ⟨rfl, rfl⟩
  go_wp2_with fail
  refine (Limb.add_calls (lo_u _) ⟨by decide, by decide⟩ (.inl rfl) _).mono ?_
  rintro e w' ⟨rfl, rfl⟩
  go_wp2_with fail
  refine (Limb.sub_calls uu0 ux0 (.inl rfl) _).mono ?_
  rintro e w' ⟨rfl, rfl⟩
  go_wp2_with fail
  rw [rounds_succ]
  go_wp2_with fail
  refine (Limb.mul_calls ug uv1 _).mono ?_
  rintro e w' ⟨rfl, rfl⟩
  go_wp2_with fail
  refine (Limb.add_calls (lo_u _) uo1 (.inl rfl) _).mono ?_
  rintro e w' ⟨rfl, rfl⟩
  go_wp2_with fail
  refine (Limb.sub_calls uu1 ux1 ub1 _).mono ?_
  rintro e w' ⟨rfl, rfl⟩
  go_wp2_with fail
  rw [rounds_succ]
  go_wp2_with fail
  refine (Limb.mul_calls ug uv2 _).mono ?_
  rintro e w' ⟨rfl, rfl⟩
  go_wp2_with fail
  refine (Limb.add_calls (lo_u _) uo2 (.inl rfl) _).mono ?_
  rintro e w' ⟨rfl, rfl⟩
  go_wp2_with fail
  refine (Limb.sub_calls uu2 ux2 ub2 _).mono ?_
  rintro e w' ⟨rfl, rfl⟩
  go_wp2_with fail
  rw [rounds_succ]
  go_wp2_with fail
  refine (Limb.sub_calls uu3 uo3 ub3 _).mono ?_
  rintro e w' ⟨rfl, rfl⟩
  go_wp2_with fail
  go_step3
  go_wp2_with fail
  refine wp_loop_rounds 4 ?_
  rw [rounds_succ]
  go_wp2_with fail
  refine (Limb.add_calls us0 uv0 (.inl rfl) _).mono ?_
  rintro e w' ⟨rfl, rfl⟩
  go_wp2_with fail
  rw [rounds_succ]
  go_wp2_with fail
  refine (Limb.add_calls us1 uv1 uc11 _).mono ?_
  rintro e w' ⟨rfl, rfl⟩
  go_wp2_with fail
  rw [rounds_succ]
  go_wp2_with fail
  refine (Limb.add_calls us2 uv2 uc12 _).mono ?_
  rintro e w' ⟨rfl, rfl⟩
  go_wp2_with fail
  rw [rounds_succ]
  go_wp2_with fail
  refine (Limb.add_calls (b := 0) us3 ⟨by decide, by decide⟩ uc13 _).mono ?_
  rintro e w' ⟨rfl, rfl⟩
  go_wp2_with fail
  go_step3
  refine ⟨rfl, ?_⟩
  unfold ScopeR
  go_wp2_with fail
  simp only [Exit.jump]
  go_ret
  exact ⟨rfl, _, rfl⟩

set_option maxHeartbeats 4000000 in
set_option maxRecDepth 100000 in
theorem step_walk_3_1e (bu off bv cu cv : Nat) (u0 u1 u2 u3 v0 v1 v2 g x0 o1 s0 b1 x1 o2 s1 b2 x2 o3 s2 b3 s3 bb p10 c11 p11 c12 p12 c13 p13 d1 g1 bb1 rr : Int) (w : World) (hne : ¬ bv = bu) (D : Hid (∀ w, Calls Try.prog 42 #[.int .u64 u3, .int .u64 u2, .int .u64 v2] w fun e w' => e = .returned (.tuple #[.int .u64 0, .int .u64 rr, .int .i64 2]) ∧ ∃ n, w' = w.drewN n))
    (cu0 : w.cell? ⟨bu, off, none⟩ = some (.int .u64 u0)) (fu0 : w.frozen? ⟨bu, off, none⟩ = false) (uu0 : U64 u0)
    (cu1 : w.cell? ⟨bu, off + 1, none⟩ = some (.int .u64 u1)) (fu1 : w.frozen? ⟨bu, off + 1, none⟩ = false) (uu1 : U64 u1)
    (cu2 : w.cell? ⟨bu, off + 2, none⟩ = some (.int .u64 u2)) (fu2 : w.frozen? ⟨bu, off + 2, none⟩ = false) (uu2 : U64 u2)
    (cu3 : w.cell? ⟨bu, off + 3, none⟩ = some (.int .u64 u3)) (fu3 : w.frozen? ⟨bu, off + 3, none⟩ = false) (uu3 : U64 u3)
    (cv0 : w.cell? ⟨bv, 0, none⟩ = some (.int .u64 v0)) (uv0 : U64 v0)
    (cv1 : w.cell? ⟨bv, 1, none⟩ = some (.int .u64 v1)) (uv1 : U64 v1)
    (cv2 : w.cell? ⟨bv, 2, none⟩ = some (.int .u64 v2)) (uv2 : U64 v2)
    (ug : U64 g)
    (ex0 : lo (lo (g * v0)) = x0) (eo1 : IntKind.u64.wrap (hi (g * v0) + hi (lo (g * v0))) = o1) (es0 : lo (u0 - x0) = s0) (eb1 : -hi (u0 - x0) = b1) (ux0 : U64 x0) (uo1 : U64 o1) (us0 : U64 s0) (ub1 : bit01 b1)
    (ex1 : lo (lo (g * v1) + o1) = x1) (eo2 : IntKind.u64.wrap (hi (g * v1) + hi (lo (g * v1) + o1)) = o2) (es1 : lo (u1 - x1 - b1) = s1) (eb2 : -hi (u1 - x1 - b1) = b2) (ux1 : U64 x1) (uo2 : U64 o2) (us1 : U64 s1) (ub2 : bit01 b2)
    (ex2 : lo (lo (g * v2) + o2) = x2) (eo3 : IntKind.u64.wrap (hi (g * v2) + hi (lo (g * v2) + o2)) = o3) (es2 : lo (u2 - x2 - b2) = s2) (eb3 : -hi (u2 - x2 - b2) = b3) (ux2 : U64 x2) (uo3 : U64 o3) (us2 : U64 s2) (ub3 : bit01 b3)
    (es3 : lo (u3 - o3 - b3) = s3) (ebb : -hi (u3 - o3 - b3) = bb) (us3 : U64 s3)
    (tb1 : (bb == 0) = false)
    (ep10 : lo (s0 + v0) = p10) (ec11 : hi (s0 + v0) = c11) (up10 : U64 p10) (uc11 : bit01 c11)
    (ep11 : lo (s1 + v1 + c11) = p11) (ec12 : hi (s1 + v1 + c11) = c12) (up11 : U64 p11) (uc12 : bit01 c12)
    (ep12 : lo (s2 + v2 + c12) = p12) (ec13 : hi (s2 + v2 + c12) = c13) (up12 : U64 p12) (uc13 : bit01 c13)
    (ep13 : lo (s3 + c13) = p13) (ed1 : hi (s3 + c13) = d1) (up13 : U64 p13) (eg1 : IntKind.u64.wrap (g - 1) = g1) (ebb1 : IntKind.u64.wrap (bb - d1) = bb1)
    (tz : (bb1 == 0) = true)
    (hg : (18446744073709551615 : Int) = g) :
    Calls Try.prog 40 #[.slice (some ⟨bu, off, none⟩) 4 cu, .slice (some ⟨bv, 0, none⟩) 3 cv] w fun e w' => e = .returned (.int .u64 g1) ∧ ∃ n, w' = ((((w.setCell ⟨bu, off, none⟩ (.int .u64 p10)).setCell ⟨bu, off + 1, none⟩ (.int .u64 p11)).setCell ⟨bu, off + 2, none⟩ (.int .u64 p12)).setCell ⟨bu, off + 3, none⟩ (.int .u64 p13)).drewN n := by
  have wk : IntKind.i64.wrap 2 = 2 := by rfl
  go_enter Try.func40, Try.ntmps40
  go_wp2_with fail
  refine wp_scope_rounds 0 2 rfl ?_
  go_wp2_with fail
  go_region_held3 (fun w' => w'.cell? ⟨bu, off + 3, none⟩ = some (.int .u64 u3) ∧ w'.cell? ⟨bu, off + 2, none⟩ = some (.int .u64 u2) ∧ w'.cell? ⟨bv, 2, none⟩ = some (.int .u64 v2)) ((refine ⟨?_, ?_, ?_⟩; all_goals go_simp))
    (first | (go_at_call 42; refine (D.out _).mono ?_; rintro e w1 ⟨rfl, n1, rfl⟩))
  go_wp2_with fail
  refine wp_loop_rounds 4 ?_
  rw [rounds_succ]
  go_wp2_with fail
  refine (Limb.mul_calls ug uv0 _).mono ?_
  rintro e w' ⟨rfl, rfl⟩
  go_wp2_with fail
  refine (Limb.add_calls (lo_u _) ⟨by decide, by decide⟩ (.inl rfl) _).mono ?_
  rintro e w' ⟨rfl, rfl⟩
  go_wp2_with fail
  refine (Limb.sub_calls uu0 ux0 (.inl rfl) _).mono ?_
  rintro e w' ⟨rfl, rfl⟩
  go_wp2_with fail
  rw [rounds_succ]
  go_wp2_with fail
  refine (Limb.mul_calls ug uv1 _).mono ?_
  rintro e w' ⟨rfl, rfl⟩
  go_wp2_with fail
  refine (Limb.add_calls (lo_u _) uo1 (.inl rfl) _).mono ?_
  rintro e w' ⟨rfl, rfl⟩
  go_wp2_with fail
  refine (Limb.sub_calls uu1 ux1 ub1 _).mono ?_
  rintro e w' ⟨rfl, rfl⟩
  go_wp2_with fail
  rw [rounds_succ]
  go_wp2_with fail
  refine (Limb.mul_calls ug uv2 _).mono ?_
  rintro e w' ⟨rfl, rfl⟩
  go_wp2_with fail
  refine (Limb.add_calls (lo_u _) uo2 (.inl rfl) _).mono ?_
  rintro e w' ⟨rfl, rfl⟩
  go_wp2_with fail
  refine (Limb.sub_calls uu2 ux2 ub2 _).mono ?_
  rintro e w' ⟨rfl, rfl⟩
  go_wp2_with fail
  rw [rounds_succ]
  go_wp2_with fail
  refine (Limb.sub_calls uu3 uo3 ub3 _).mono ?_
  rintro e w' ⟨rfl, rfl⟩
  go_wp2_with fail
  go_step3
  go_wp2_with fail
  refine wp_loop_rounds 4 ?_
  rw [rounds_succ]
  go_wp2_with fail
  refine (Limb.add_calls us0 uv0 (.inl rfl) _).mono ?_
  rintro e w' ⟨rfl, rfl⟩
  go_wp2_with fail
  rw [rounds_succ]
  go_wp2_with fail
  refine (Limb.add_calls us1 uv1 uc11 _).mono ?_
  rintro e w' ⟨rfl, rfl⟩
  go_wp2_with fail
  rw [rounds_succ]
  go_wp2_with fail
  refine (Limb.add_calls us2 uv2 uc12 _).mono ?_
  rintro e w' ⟨rfl, rfl⟩
  go_wp2_with fail
  rw [rounds_succ]
  go_wp2_with fail
  refine (Limb.add_calls (b := 0) us3 ⟨by decide, by decide⟩ uc13 _).mono ?_
  rintro e w' ⟨rfl, rfl⟩
  go_wp2_with fail
  go_step3
  refine ⟨rfl, ?_⟩
  unfold ScopeR
  go_wp2_with fail
  simp only [Exit.jump]
  go_ret
  exact ⟨rfl, _, rfl⟩

set_option maxHeartbeats 4000000 in
set_option maxRecDepth 100000 in
theorem step_walk_3_2 (bu off bv cu cv : Nat) (u0 u1 u2 u3 v0 v1 v2 g x0 o1 s0 b1 x1 o2 s1 b2 x2 o3 s2 b3 s3 bb p10 c11 p11 c12 p12 c13 p13 d1 g1 bb1 p20 c21 p21 c22 p22 c23 p23 d2 g2 bb2 rr : Int) (w : World) (hne : ¬ bv = bu) (D : Hid (∀ w, Calls Try.prog 42 #[.int .u64 u3, .int .u64 u2, .int .u64 v2] w fun e w' => e = .returned (.tuple #[.int .u64 g, .int .u64 rr, .int .i64 0]) ∧ ∃ n, w' = w.drewN n))
    (cu0 : w.cell? ⟨bu, off, none⟩ = some (.int .u64 u0)) (fu0 : w.frozen? ⟨bu, off, none⟩ = false) (uu0 : U64 u0)
    (cu1 : w.cell? ⟨bu, off + 1, none⟩ = some (.int .u64 u1)) (fu1 : w.frozen? ⟨bu, off + 1, none⟩ = false) (uu1 : U64 u1)
    (cu2 : w.cell? ⟨bu, off + 2, none⟩ = some (.int .u64 u2)) (fu2 : w.frozen? ⟨bu, off + 2, none⟩ = false) (uu2 : U64 u2)
    (cu3 : w.cell? ⟨bu, off + 3, none⟩ = some (.int .u64 u3)) (fu3 : w.frozen? ⟨bu, off + 3, none⟩ = false) (uu3 : U64 u3)
    (cv0 : w.cell? ⟨bv, 0, none⟩ = some (.int .u64 v0)) (uv0 : U64 v0)
    (cv1 : w.cell? ⟨bv, 1, none⟩ = some (.int .u64 v1)) (uv1 : U64 v1)
    (cv2 : w.cell? ⟨bv, 2, none⟩ = some (.int .u64 v2)) (uv2 : U64 v2)
    (ug : U64 g)
    (ex0 : lo (lo (g * v0)) = x0) (eo1 : IntKind.u64.wrap (hi (g * v0) + hi (lo (g * v0))) = o1) (es0 : lo (u0 - x0) = s0) (eb1 : -hi (u0 - x0) = b1) (ux0 : U64 x0) (uo1 : U64 o1) (us0 : U64 s0) (ub1 : bit01 b1)
    (ex1 : lo (lo (g * v1) + o1) = x1) (eo2 : IntKind.u64.wrap (hi (g * v1) + hi (lo (g * v1) + o1)) = o2) (es1 : lo (u1 - x1 - b1) = s1) (eb2 : -hi (u1 - x1 - b1) = b2) (ux1 : U64 x1) (uo2 : U64 o2) (us1 : U64 s1) (ub2 : bit01 b2)
    (ex2 : lo (lo (g * v2) + o2) = x2) (eo3 : IntKind.u64.wrap (hi (g * v2) + hi (lo (g * v2) + o2)) = o3) (es2 : lo (u2 - x2 - b2) = s2) (eb3 : -hi (u2 - x2 - b2) = b3) (ux2 : U64 x2) (uo3 : U64 o3) (us2 : U64 s2) (ub3 : bit01 b3)
    (es3 : lo (u3 - o3 - b3) = s3) (ebb : -hi (u3 - o3 - b3) = bb) (us3 : U64 s3)
    (tb1 : (bb == 0) = false)
    (ep10 : lo (s0 + v0) = p10) (ec11 : hi (s0 + v0) = c11) (up10 : U64 p10) (uc11 : bit01 c11)
    (ep11 : lo (s1 + v1 + c11) = p11) (ec12 : hi (s1 + v1 + c11) = c12) (up11 : U64 p11) (uc12 : bit01 c12)
    (ep12 : lo (s2 + v2 + c12) = p12) (ec13 : hi (s2 + v2 + c12) = c13) (up12 : U64 p12) (uc13 : bit01 c13)
    (ep13 : lo (s3 + c13) = p13) (ed1 : hi (s3 + c13) = d1) (up13 : U64 p13) (eg1 : IntKind.u64.wrap (g - 1) = g1) (ebb1 : IntKind.u64.wrap (bb - d1) = bb1)
    (tb2 : (bb1 == 0) = false)
    (ep20 : lo (p10 + v0) = p20) (ec21 : hi (p10 + v0) = c21) (up20 : U64 p20) (uc21 : bit01 c21)
    (ep21 : lo (p11 + v1 + c21) = p21) (ec22 : hi (p11 + v1 + c21) = c22) (up21 : U64 p21) (uc22 : bit01 c22)
    (ep22 : lo (p12 + v2 + c22) = p22) (ec23 : hi (p12 + v2 + c22) = c23) (up22 : U64 p22) (uc23 : bit01 c23)
    (ep23 : lo (p13 + c23) = p23) (ed2 : hi (p13 + c23) = d2) (up23 : U64 p23) (eg2 : IntKind.u64.wrap (g1 - 1) = g2) (ebb2 : IntKind.u64.wrap (bb1 - d2) = bb2)
    (tz : (bb2 == 0) = true) :
    Calls Try.prog 40 #[.slice (some ⟨bu, off, none⟩) 4 cu, .slice (some ⟨bv, 0, none⟩) 3 cv] w fun e w' => e = .returned (.int .u64 g2) ∧ ∃ n, w' = ((((w.setCell ⟨bu, off, none⟩ (.int .u64 p20)).setCell ⟨bu, off + 1, none⟩ (.int .u64 p21)).setCell ⟨bu, off + 2, none⟩ (.int .u64 p22)).setCell ⟨bu, off + 3, none⟩ (.int .u64 p23)).drewN n := by
  have wk : IntKind.i64.wrap 2 = 2 := by rfl
  go_enter Try.func40, Try.ntmps40
  go_wp2_with fail
  refine wp_scope_rounds 0 3 rfl ?_
  go_wp2_with fail
  go_region_held3 (fun w' => w'.cell? ⟨bu, off + 3, none⟩ = some (.int .u64 u3) ∧ w'.cell? ⟨bu, off + 2, none⟩ = some (.int .u64 u2) ∧ w'.cell? ⟨bv, 2, none⟩ = some (.int .u64 v2)) ((refine ⟨?_, ?_, ?_⟩; all_goals go_simp))
    (first | (go_at_call 42; refine (D.out _).mono ?_; rintro e w1 ⟨rfl, n1, rfl⟩))
  go_wp2_with fail
  refine wp_loop_rounds 4 ?_
  rw [rounds_succ]
  go_wp2_with fail
  refine (Limb.mul_calls ug uv0 _).mono ?_
  rintro e w' ⟨rfl, rfl⟩
  go_wp2_with fail
  refine (Limb.add_calls (lo_u _) ⟨by decide, by decide⟩ (.inl rfl) _).mono ?_
  rintro e w' ⟨rfl, rfl⟩
  go_wp2_with fail
  refine (Limb.sub_calls uu0 ux0 (.inl rfl) _).mono ?_
  rintro e w' ⟨rfl, rfl⟩
  go_wp2_with fail
  rw [rounds_succ]
  go_wp2_with fail
  refine (Limb.mul_calls ug uv1 _).mono ?_
  rintro e w' ⟨rfl, rfl⟩
  go_wp2_with fail
  refine (Limb.add_calls (lo_u _) uo1 (.inl rfl) _).mono ?_
  rintro e w' ⟨rfl, rfl⟩
  go_wp2_with fail
  refine (Limb.sub_calls uu1 ux1 ub1 _).mono ?_
  rintro e w' ⟨rfl, rfl⟩
  go_wp2_with fail
  rw [rounds_succ]
  go_wp2_with fail
  refine (Limb.mul_calls ug uv2 _).mono ?_
  rintro e w' ⟨rfl, rfl⟩
  go_wp2_with fail
  refine (Limb.add_calls (lo_u _) uo2 (.inl rfl) _).mono ?_
  rintro e w' ⟨rfl, rfl⟩
  go_wp2_with fail
  refine (Limb.sub_calls uu2 ux2 ub2 _).mono ?_
  rintro e w' ⟨rfl, rfl⟩
  go_wp2_with fail
  rw [rounds_succ]
  go_wp2_with fail
  refine (Limb.sub_calls uu3 uo3 ub3 _).mono ?_
  rintro e w' ⟨rfl, rfl⟩
  go_wp2_with fail
  go_step3
  go_wp2_with fail
  refine wp_loop_rounds 4 ?_
  rw [rounds_succ]
  go_wp2_with fail
  refine (Limb.add_calls us0 uv0 (.inl rfl) _).mono ?_
  rintro e w' ⟨rfl, rfl⟩
  go_wp2_with fail
  rw [rounds_succ]
  go_wp2_with fail
  refine (Limb.add_calls us1 uv1 uc11 _).mono ?_
  rintro e w' ⟨rfl, rfl⟩
  go_wp2_with fail
  rw [rounds_succ]
  go_wp2_with fail
  refine (Limb.add_calls us2 uv2 uc12 _).mono ?_
  rintro e w' ⟨rfl, rfl⟩
  go_wp2_with fail
  rw [rounds_succ]
  go_wp2_with fail
  refine (Limb.add_calls (b := 0) us3 ⟨by decide, by decide⟩ uc13 _).mono ?_
  rintro e w' ⟨rfl, rfl⟩
  go_wp2_with fail
  go_step3
  refine ⟨rfl, ?_⟩
  unfold ScopeR
  go_wp2_with fail
  refine wp_loop_rounds 4 ?_
  rw [rounds_succ]
  go_wp2_with fail
  refine (Limb.add_calls up10 uv0 (.inl rfl) _).mono ?_
  rintro e w' ⟨rfl, rfl⟩
  go_wp2_with fail
  rw [rounds_succ]
  go_wp2_with fail
  refine (Limb.add_calls up11 uv1 uc21 _).mono ?_
  rintro e w' ⟨rfl, rfl⟩
  go_wp2_with fail
  rw [rounds_succ]
  go_wp2_with fail
  refine (Limb.add_calls up12 uv2 uc22 _).mono ?_
  rintro e w' ⟨rfl, rfl⟩
  go_wp2_with fail
  rw [rounds_succ]
  go_wp2_with fail
  refine (Limb.add_calls (b := 0) up13 ⟨by decide, by decide⟩ uc23 _).mono ?_
  rintro e w' ⟨rfl, rfl⟩
  go_wp2_with fail
  go_step3
  refine ⟨rfl, ?_⟩
  unfold ScopeR
  go_wp2_with fail
  simp only [Exit.jump]
  go_ret
  exact ⟨rfl, _, rfl⟩

set_option maxHeartbeats 4000000 in
set_option maxRecDepth 100000 in
theorem step_walk_3_2e (bu off bv cu cv : Nat) (u0 u1 u2 u3 v0 v1 v2 g x0 o1 s0 b1 x1 o2 s1 b2 x2 o3 s2 b3 s3 bb p10 c11 p11 c12 p12 c13 p13 d1 g1 bb1 p20 c21 p21 c22 p22 c23 p23 d2 g2 bb2 rr : Int) (w : World) (hne : ¬ bv = bu) (D : Hid (∀ w, Calls Try.prog 42 #[.int .u64 u3, .int .u64 u2, .int .u64 v2] w fun e w' => e = .returned (.tuple #[.int .u64 0, .int .u64 rr, .int .i64 2]) ∧ ∃ n, w' = w.drewN n))
    (cu0 : w.cell? ⟨bu, off, none⟩ = some (.int .u64 u0)) (fu0 : w.frozen? ⟨bu, off, none⟩ = false) (uu0 : U64 u0)
    (cu1 : w.cell? ⟨bu, off + 1, none⟩ = some (.int .u64 u1)) (fu1 : w.frozen? ⟨bu, off + 1, none⟩ = false) (uu1 : U64 u1)
    (cu2 : w.cell? ⟨bu, off + 2, none⟩ = some (.int .u64 u2)) (fu2 : w.frozen? ⟨bu, off + 2, none⟩ = false) (uu2 : U64 u2)
    (cu3 : w.cell? ⟨bu, off + 3, none⟩ = some (.int .u64 u3)) (fu3 : w.frozen? ⟨bu, off + 3, none⟩ = false) (uu3 : U64 u3)
    (cv0 : w.cell? ⟨bv, 0, none⟩ = some (.int .u64 v0)) (uv0 : U64 v0)
    (cv1 : w.cell? ⟨bv, 1, none⟩ = some (.int .u64 v1)) (uv1 : U64 v1)
    (cv2 : w.cell? ⟨bv, 2, none⟩ = some (.int .u64 v2)) (uv2 : U64 v2)
    (ug : U64 g)
    (ex0 : lo (lo (g * v0)) = x0) (eo1 : IntKind.u64.wrap (hi (g * v0) + hi (lo (g * v0))) = o1) (es0 : lo (u0 - x0) = s0) (eb1 : -hi (u0 - x0) = b1) (ux0 : U64 x0) (uo1 : U64 o1) (us0 : U64 s0) (ub1 : bit01 b1)
    (ex1 : lo (lo (g * v1) + o1) = x1) (eo2 : IntKind.u64.wrap (hi (g * v1) + hi (lo (g * v1) + o1)) = o2) (es1 : lo (u1 - x1 - b1) = s1) (eb2 : -hi (u1 - x1 - b1) = b2) (ux1 : U64 x1) (uo2 : U64 o2) (us1 : U64 s1) (ub2 : bit01 b2)
    (ex2 : lo (lo (g * v2) + o2) = x2) (eo3 : IntKind.u64.wrap (hi (g * v2) + hi (lo (g * v2) + o2)) = o3) (es2 : lo (u2 - x2 - b2) = s2) (eb3 : -hi (u2 - x2 - b2) = b3) (ux2 : U64 x2) (uo3 : U64 o3) (us2 : U64 s2) (ub3 : bit01 b3)
    (es3 : lo (u3 - o3 - b3) = s3) (ebb : -hi (u3 - o3 - b3) = bb) (us3 : U64 s3)
    (tb1 : (bb == 0) = false)
    (ep10 : lo (s0 + v0) = p10) (ec11 : hi (s0 + v0) = c11) (up10 : U64 p10) (uc11 : bit01 c11)
    (ep11 : lo (s1 + v1 + c11) = p11) (ec12 : hi (s1 + v1 + c11) = c12) (up11 : U64 p11) (uc12 : bit01 c12)
    (ep12 : lo (s2 + v2 + c12) = p12) (ec13 : hi (s2 + v2 + c12) = c13) (up12 : U64 p12) (uc13 : bit01 c13)
    (ep13 : lo (s3 + c13) = p13) (ed1 : hi (s3 + c13) = d1) (up13 : U64 p13) (eg1 : IntKind.u64.wrap (g - 1) = g1) (ebb1 : IntKind.u64.wrap (bb - d1) = bb1)
    (tb2 : (bb1 == 0) = false)
    (ep20 : lo (p10 + v0) = p20) (ec21 : hi (p10 + v0) = c21) (up20 : U64 p20) (uc21 : bit01 c21)
    (ep21 : lo (p11 + v1 + c21) = p21) (ec22 : hi (p11 + v1 + c21) = c22) (up21 : U64 p21) (uc22 : bit01 c22)
    (ep22 : lo (p12 + v2 + c22) = p22) (ec23 : hi (p12 + v2 + c22) = c23) (up22 : U64 p22) (uc23 : bit01 c23)
    (ep23 : lo (p13 + c23) = p23) (ed2 : hi (p13 + c23) = d2) (up23 : U64 p23) (eg2 : IntKind.u64.wrap (g1 - 1) = g2) (ebb2 : IntKind.u64.wrap (bb1 - d2) = bb2)
    (tz : (bb2 == 0) = true)
    (hg : (18446744073709551615 : Int) = g) :
    Calls Try.prog 40 #[.slice (some ⟨bu, off, none⟩) 4 cu, .slice (some ⟨bv, 0, none⟩) 3 cv] w fun e w' => e = .returned (.int .u64 g2) ∧ ∃ n, w' = ((((w.setCell ⟨bu, off, none⟩ (.int .u64 p20)).setCell ⟨bu, off + 1, none⟩ (.int .u64 p21)).setCell ⟨bu, off + 2, none⟩ (.int .u64 p22)).setCell ⟨bu, off + 3, none⟩ (.int .u64 p23)).drewN n := by
  have wk : IntKind.i64.wrap 2 = 2 := by rfl
  go_enter Try.func40, Try.ntmps40
  go_wp2_with fail
  refine wp_scope_rounds 0 3 rfl ?_
  go_wp2_with fail
  go_region_held3 (fun w' => w'.cell? ⟨bu, off + 3, none⟩ = some (.int .u64 u3) ∧ w'.cell? ⟨bu, off + 2, none⟩ = some (.int .u64 u2) ∧ w'.cell? ⟨bv, 2, none⟩ = some (.int .u64 v2)) ((refine ⟨?_, ?_, ?_⟩; all_goals go_simp))
    (first | (go_at_call 42; refine (D.out _).mono ?_; rintro e w1 ⟨rfl, n1, rfl⟩))
  go_wp2_with fail
  refine wp_loop_rounds 4 ?_
  rw [rounds_succ]
  go_wp2_with fail
  refine (Limb.mul_calls ug uv0 _).mono ?_
  rintro e w' ⟨rfl, rfl⟩
  go_wp2_with fail
  refine (Limb.add_calls (lo_u _) ⟨by decide, by decide⟩ (.inl rfl) _).mono ?_
  rintro e w' ⟨rfl, rfl⟩
  go_wp2_with fail
  refine (Limb.sub_calls uu0 ux0 (.inl rfl) _).mono ?_
  rintro e w' ⟨rfl, rfl⟩
  go_wp2_with fail
  rw [rounds_succ]
  go_wp2_with fail
  refine (Limb.mul_calls ug uv1 _).mono ?_
  rintro e w' ⟨rfl, rfl⟩
  go_wp2_with fail
  refine (Limb.add_calls (lo_u _) uo1 (.inl rfl) _).mono ?_
  rintro e w' ⟨rfl, rfl⟩
  go_wp2_with fail
  refine (Limb.sub_calls uu1 ux1 ub1 _).mono ?_
  rintro e w' ⟨rfl, rfl⟩
  go_wp2_with fail
  rw [rounds_succ]
  go_wp2_with fail
  refine (Limb.mul_calls ug uv2 _).mono ?_
  rintro e w' ⟨rfl, rfl⟩
  go_wp2_with fail
  refine (Limb.add_calls (lo_u _) uo2 (.inl rfl) _).mono ?_
  rintro e w' ⟨rfl, rfl⟩
  go_wp2_with fail
  refine (Limb.sub_calls uu2 ux2 ub2 _).mono ?_
  rintro e w' ⟨rfl, rfl⟩
  go_wp2_with fail
  rw [rounds_succ]
  go_wp2_with fail
  refine (Limb.sub_calls uu3 uo3 ub3 _).mono ?_
  rintro e w' ⟨rfl, rfl⟩
  go_wp2_with fail
  go_step3
  go_wp2_with fail
  refine wp_loop_rounds 4 ?_
  rw [rounds_succ]
  go_wp2_with fail
  refine (Limb.add_calls us0 uv0 (.inl rfl) _).mono ?_
  rintro e w' ⟨rfl, rfl⟩
  go_wp2_with fail
  rw [rounds_succ]
  go_wp2_with fail
  refine (Limb.add_calls us1 uv1 uc11 _).mono ?_
  rintro e w' ⟨rfl, rfl⟩
  go_wp2_with fail
  rw [rounds_succ]
  go_wp2_with fail
  refine (Limb.add_calls us2 uv2 uc12 _).mono ?_
  rintro e w' ⟨rfl, rfl⟩
  go_wp2_with fail
  rw [rounds_succ]
  go_wp2_with fail
  refine (Limb.add_calls (b := 0) us3 ⟨by decide, by decide⟩ uc13 _).mono ?_
  rintro e w' ⟨rfl, rfl⟩
  go_wp2_with fail
  go_step3
  refine ⟨rfl, ?_⟩
  unfold ScopeR
  go_wp2_with fail
  refine wp_loop_rounds 4 ?_
  rw [rounds_succ]
  go_wp2_with fail
  refine (Limb.add_calls up10 uv0 (.inl rfl) _).mono ?_
  rintro e w' ⟨rfl, rfl⟩
  go_wp2_with fail
  rw [rounds_succ]
  go_wp2_with fail
  refine (Limb.add_calls up11 uv1 uc21 _).mono ?_
  rintro e w' ⟨rfl, rfl⟩
  go_wp2_with fail
  rw [rounds_succ]
  go_wp2_with fail
  refine (Limb.add_calls up12 uv2 uc22 _).mono ?_
  rintro e w' ⟨rfl, rfl⟩
  go_wp2_with fail
  rw [rounds_succ]
  go_wp2_with fail
  refine (Limb.add_calls (b := 0) up13 ⟨by decide, by decide⟩ uc23 _).mono ?_
  rintro e w' ⟨rfl, rfl⟩
  go_wp2_with fail
  go_step3
  refine ⟨rfl, ?_⟩
  unfold ScopeR
  go_wp2_with fail
  simp only [Exit.jump]
  go_ret
  exact ⟨rfl, _, rfl⟩

end Go.Proofs.Ytgjdegahofoalaa.Wide

/- wide.step with 3 limbs: the quotient's limb, and what is left. -/
namespace Go.Proofs.Ytgjdegahofoalaa.Wide
open Go.RowKit

set_option maxHeartbeats 1000000 in
theorem step_calls_3 (bu off bv cu cv : Nat) {U V : Int} (w : World) (hne : ¬ bv = bu) (hU0 : 0 ≤ U) (hUV : U < V * 18446744073709551616) (hV : V < 6277101735386680763835789423207666416102355444464034512896) (hVn : 6277101735386680763835789423207666416102355444464034512896 ≤ 2 * V)  (cu0 : w.cell? ⟨bu, off, none⟩ = some (.int .u64 (L0 U))) (fu0 : w.frozen? ⟨bu, off, none⟩ = false) (cu1 : w.cell? ⟨bu, off + 1, none⟩ = some (.int .u64 (L1 U))) (fu1 : w.frozen? ⟨bu, off + 1, none⟩ = false) (cu2 : w.cell? ⟨bu, off + 2, none⟩ = some (.int .u64 (L2 U))) (fu2 : w.frozen? ⟨bu, off + 2, none⟩ = false) (cu3 : w.cell? ⟨bu, off + 3, none⟩ = some (.int .u64 (L3 U))) (fu3 : w.frozen? ⟨bu, off + 3, none⟩ = false) (cv0 : w.cell? ⟨bv, 0, none⟩ = some (.int .u64 (L0 V))) (cv1 : w.cell? ⟨bv, 1, none⟩ = some (.int .u64 (L1 V))) (cv2 : w.cell? ⟨bv, 2, none⟩ = some (.int .u64 (L2 V))) :
    Calls Try.prog 40 #[.slice (some ⟨bu, off, none⟩) 4 cu, .slice (some ⟨bv, 0, none⟩) 3 cv] w fun e w' => e = .returned (.int .u64 (U / V)) ∧ ∃ n, w' = (w.setCells bu off [.int .u64 (L0 (U % V)), .int .u64 (L1 (U % V)), .int .u64 (L2 (U % V)), .int .u64 (L3 (U % V))]).drewN n := by
  have hV0 : 0 < V := by omega
  have hU : U < 115792089237316195423570985008687907853269984665640564039457584007913129639936 := by omega
  -- the two highest limbs
  obtain ⟨ut, eut⟩ : ∃ ut, ut = L3 U * 18446744073709551616 + L2 U := ⟨_, rfl⟩
  obtain ⟨vt, evt⟩ : ∃ vt, vt = L2 V := ⟨_, rfl⟩
  have vhi : (hi (hi (hi V))) = 0 := by unfold hi; omega
  have uhi : (hi (hi (hi (hi U)))) = 0 := by unfold hi; omega
  have gu : ut * 340282366920938463463374607431768211456 ≤ U ∧ U < (ut + 1) * 340282366920938463463374607431768211456 ∧ 0 ≤ ut := by subst eut; unfold L3 L2 lo hi; omega
  have gv : vt * 340282366920938463463374607431768211456 ≤ V ∧ V < (vt + 1) * 340282366920938463463374607431768211456 ∧ 18446744073709551616 ≤ 2 * vt ∧ vt < 18446744073709551616 := by subst evt; unfold L2 lo; (try unfold hi); omega
  obtain ⟨g, hg⟩ : ∃ g, (ut < vt * 18446744073709551616 ∧ g = ut / vt) ∨ (vt * 18446744073709551616 ≤ ut ∧ g = 18446744073709551615) := by
    by_cases hc : ut < vt * 18446744073709551616
    · exact ⟨_, .inl ⟨hc, rfl⟩⟩
    · exact ⟨_, .inr ⟨by omega, rfl⟩⟩
  obtain ⟨g0, g1, g2, g3⟩ := guess_bounds (B := 340282366920938463463374607431768211456) (by decide) gu.1 gu.2.1 gv.1 gv.2.1 gv.2.2.1 gu.2.2 hUV hg
  have ug : U64 g := ⟨g0, by omega⟩
  obtain ⟨G, hG⟩ : ∃ G, G = g * V := ⟨_, rfl⟩
  have hG0 : 0 ≤ G := by rw [hG]; exact Int.mul_nonneg g0 (by omega)
  have hG1 : G < 115792089237316195423570985008687907853269984665640564039457584007913129639936 := by
    have h1 : g * V ≤ 18446744073709551615 * V := Int.mul_le_mul_of_nonneg_right g1 (by omega)
    omega
  have ghi : (hi (hi (hi (hi G)))) = 0 := by unfold hi; omega
  have P0 := prod_step g V 0
  simp only [Int.zero_add] at P0
  rw [← hG] at P0
  obtain ⟨x0, y0, p1⟩ := ms0 ug (L0_u V)
  simp only [Int.zero_add] at x0 y0 p1
  obtain ⟨o1, e1⟩ : ∃ o, o = hi (g * L0 V) := ⟨_, rfl⟩
  have G1 : hi G = o1 + g * hi V := by rw [e1]; exact P0.1
  have y0 := y0.trans e1.symm
  rw [← e1] at p1
  have X0 : lo (lo (g * L0 V)) = L0 G := x0.trans P0.2.symm
  obtain ⟨x1, y1, p2⟩ := ms' ug (L1_u V) p1
  obtain ⟨o2, e2⟩ : ∃ o, o = hi (o1 + g * L1 V) := ⟨_, rfl⟩
  have P1 := prod_step g (hi V) o1
  have G2 : (hi (hi G)) = o2 + g * (hi (hi V)) := by rw [G1, e2]; exact P1.1
  have y1 := y1.trans e2.symm
  rw [← e2] at p2
  have X1 : lo (lo (g * L1 V) + o1) = L1 G := x1.trans (by show lo (o1 + g * lo (hi V)) = lo (hi G); rw [G1]; exact P1.2.symm)
  obtain ⟨x2, y2, p3⟩ := ms' ug (L2_u V) p2
  obtain ⟨o3, e3⟩ : ∃ o, o = hi (o2 + g * L2 V) := ⟨_, rfl⟩
  have P2 := prod_step g (hi (hi V)) o2
  have G3 : (hi (hi (hi G))) = o3 + g * (hi (hi (hi V))) := by rw [G2, e3]; exact P2.1
  have y2 := y2.trans e3.symm
  rw [← e3] at p3
  have X2 : lo (lo (g * L2 V) + o2) = L2 G := x2.trans (by show lo (o2 + g * lo (hi (hi V))) = lo (hi (hi G)); rw [G2]; exact P2.2.symm)
  have GK : (hi (hi (hi G))) = o3 := by rw [G3, vhi, Int.mul_zero, Int.add_zero]
  have GL : o3 = L3 G := by rw [← lo_id p3, ← GK]; rfl
  obtain ⟨T, hT⟩ : ∃ T, T = U - G := ⟨_, rfl⟩
  have S0 := sub_first U G
  rw [← hT] at S0
  have S1 := sub_next (hi U) (hi G) (hi T)
  have S2 := sub_next (hi (hi U)) (hi (hi G)) (hi (hi T))
  have S3 := sub_next (hi (hi (hi U))) (hi (hi (hi G))) (hi (hi (hi T)))
  have B1 : bit01 (-((hi T) - (hi U) + (hi G))) := by rw [hT]; exact bit_sub_first
  have B2 : bit01 (-((hi (hi T)) - (hi (hi U)) + (hi (hi G)))) := bit_sub_next B1
  have B3 : bit01 (-((hi (hi (hi T))) - (hi (hi (hi U))) + (hi (hi (hi G))))) := bit_sub_next B2
  have BB : -hi (L3 U - o3 - (-((hi (hi (hi T))) - (hi (hi (hi U))) + (hi (hi (hi G)))))) = -(hi (hi (hi (hi T)))) := by rw [GL]; have := S3.1; rw [uhi, ghi] at this; show -hi (lo (hi (hi (hi U))) - lo (hi (hi (hi G))) - (-((hi (hi (hi T))) - (hi (hi (hi U))) + (hi (hi (hi G)))))) = _; rw [this]; omega
  have SK : lo (L3 U - o3 - (-((hi (hi (hi T))) - (hi (hi (hi U))) + (hi (hi (hi G)))))) = L3 T := by rw [GL]; exact S3.2
  have q0 : 0 ≤ U / V := Int.ediv_nonneg hU0 (by omega)
  have qa : (U / V) * V ≤ U := Int.ediv_mul_le U (by omega)
  have qb : U < (U / V + 1) * V := Int.lt_ediv_add_one_mul_self U hV0
  obtain ⟨q, eq⟩ : ∃ q, q = U / V := ⟨_, rfl⟩
  rw [← eq] at q0 qa qb g2 g3
  have qb' : U < q * V + V := by rw [Int.add_mul, Int.one_mul] at qb; exact qb
  have rem : U % V = U - q * V := (div_of hV0 (by omega) (by omega)).2
  rw [← eq, rem]
  obtain ⟨T1, hT1⟩ : ∃ X, X = T + V := ⟨_, rfl⟩
  have A10 := add_first T V
  rw [← hT1] at A10
  have A11 := add_next (hi T) (hi V) (hi T1)
  have A12 := add_next (hi (hi T)) (hi (hi V)) (hi (hi T1))
  have A13 := add_last (hi (hi (hi T))) (hi (hi (hi T1)))
  have C11 : bit01 ((hi T1) - (hi T) - (hi V)) := by rw [hT1]; exact bit_add_first
  have C12 : bit01 ((hi (hi T1)) - (hi (hi T)) - (hi (hi V))) := bit_add_next C11
  have C13 : bit01 ((hi (hi (hi T1))) - (hi (hi (hi T))) - (hi (hi (hi V)))) := bit_add_next C12
  rw [vhi] at C13
  rw [vhi] at A12
  obtain ⟨T2, hT2⟩ : ∃ X, X = T1 + V := ⟨_, rfl⟩
  have A20 := add_first T1 V
  rw [← hT2] at A20
  have A21 := add_next (hi T1) (hi V) (hi T2)
  have A22 := add_next (hi (hi T1)) (hi (hi V)) (hi (hi T2))
  have A23 := add_last (hi (hi (hi T1))) (hi (hi (hi T2)))
  have C21 : bit01 ((hi T2) - (hi T1) - (hi V)) := by rw [hT2]; exact bit_add_first
  have C22 : bit01 ((hi (hi T2)) - (hi (hi T1)) - (hi (hi V))) := bit_add_next C21
  have C23 : bit01 ((hi (hi (hi T2))) - (hi (hi (hi T1))) - (hi (hi (hi V)))) := bit_add_next C22
  rw [vhi] at C23
  rw [vhi] at A22
  have fin (c : Nat) (gg : Int) (X : Int) (W : World) (hgq : gg = q) (hX : X = U - q * V) (hW : ∀ n, W.drewN n = (w.setCells bu off [.int .u64 (L0 X), .int .u64 (L1 X), .int .u64 (L2 X), .int .u64 (L3 X)]).drewN n) (hc : Calls Try.prog 40 #[.slice (some ⟨bu, off, none⟩) 4 cu, .slice (some ⟨bv, 0, none⟩) 3 cv] w fun e w' => e = .returned (.int .u64 gg) ∧ ∃ n, w' = W.drewN n) :
      Calls Try.prog 40 #[.slice (some ⟨bu, off, none⟩) 4 cu, .slice (some ⟨bv, 0, none⟩) 3 cv] w fun e w' => e = .returned (.int .u64 q) ∧ ∃ n, w' = (w.setCells bu off [.int .u64 (L0 (U - q * V)), .int .u64 (L1 (U - q * V)), .int .u64 (L2 (U - q * V)), .int .u64 (L3 (U - q * V))]).drewN n := by
    subst hX
    rw [hgq] at hc
    exact hc.mono fun e w' ⟨h1, n, h2⟩ => ⟨h1, n, h2.trans (hW n)⟩
  have w01 (x : Int) (hx : bit01 x) : IntKind.u64.wrap x = x := by rw [wrap_lo]; unfold bit01 at hx; unfold lo; omega
  have DD : (ut < vt * 18446744073709551616 ∧ ∃ rr, ∀ w, Calls Try.prog 42 #[.int .u64 (L3 U), .int .u64 (L2 U), .int .u64 (L2 V)] w fun e w' => e = .returned (.tuple #[.int .u64 g, .int .u64 rr, .int .i64 0]) ∧ ∃ n, w' = w.drewN n) ∨
      (18446744073709551615 = g ∧ ∀ w, Calls Try.prog 42 #[.int .u64 (L3 U), .int .u64 (L2 U), .int .u64 (L2 V)] w fun e w' => e = .returned (.tuple #[.int .u64 0, .int .u64 0, .int .i64 2]) ∧ ∃ n, w' = w.drewN n) := by
    rcases hg with ⟨hc, hgg⟩ | ⟨hc, hgg⟩
    · refine .inl ⟨hc, ut % vt, fun w => ?_⟩
      have := Limb.div_int (a := L3 U) (b := L2 U) (y := L2 V) (by rw [← evt]; omega) (L2_u V).2 (L3_u U).1 (by rw [← evt]; have := (L2_u U).1; omega) (L2_u U) w
      rw [← eut, ← evt, ← hgg] at this
      rw [← evt]
      exact this
    · refine .inr ⟨hgg.symm, fun w => ?_⟩
      exact (Limb.div_over _ _ _ (beq_eq_false_iff_ne.2 (by rw [← evt]; omega)) (by rw [← evt]; have := (L2_u U).2; omega) w).mono fun e w' ⟨h1, h2⟩ => ⟨h1, 0, h2.symm⟩
  by_cases t0 : 0 ≤ T
  · have z : (hi (hi (hi (hi T)))) = 0 := by unfold hi; omega
    have hgq : g = q := by
      by_cases hle : g ≤ q
      · omega
      · have : (q + 1) * V ≤ g * V := Int.mul_le_mul_of_nonneg_right (by omega) (by omega)
        rw [Int.add_mul, Int.one_mul] at this
        omega
    have tz : (-(hi (hi (hi (hi T)))) == 0) = true := by rw [z]; rfl
    refine fin 0 g T (w.setCells bu off [.int .u64 (L0 T), .int .u64 (L1 T), .int .u64 (L2 T), .int .u64 (L3 T)]) hgq (by rw [hT, hG, hgq]) (fun n => rfl) ?_
    rcases DD with ⟨_, rr, D⟩ | ⟨hgm, D⟩
    · exact step_walk_3_0 bu off bv cu cv (L0 U) (L1 U) (L2 U) (L3 U) (L0 V) (L1 V) (L2 V) g (L0 G) o1 (L0 T) (-((hi T) - (hi U) + (hi G))) (L1 G) o2 (L1 T) (-((hi (hi T)) - (hi (hi U)) + (hi (hi G)))) (L2 G) o3 (L2 T) (-((hi (hi (hi T))) - (hi (hi (hi U))) + (hi (hi (hi G))))) (L3 T) (-(hi (hi (hi (hi T))))) rr w hne (Lib.hid D) cu0 fu0 (L0_u U) cu1 fu1 (L1_u U) cu2 fu2 (L2_u U) cu3 fu3 (L3_u U) cv0 (L0_u V) cv1 (L1_u V) cv2 (L2_u V) ug X0 y0 S0.2 (congrArg Neg.neg S0.1) (L0_u G) p1 (L0_u T) B1 X1 y1 S1.2 (congrArg Neg.neg S1.1) (L1_u G) p2 (L1_u T) B2 X2 y2 S2.2 (congrArg Neg.neg S2.1) (L2_u G) p3 (L2_u T) B3 SK BB (L3_u T) tz
    · exact step_walk_3_0e bu off bv cu cv (L0 U) (L1 U) (L2 U) (L3 U) (L0 V) (L1 V) (L2 V) g (L0 G) o1 (L0 T) (-((hi T) - (hi U) + (hi G))) (L1 G) o2 (L1 T) (-((hi (hi T)) - (hi (hi U)) + (hi (hi G)))) (L2 G) o3 (L2 T) (-((hi (hi (hi T))) - (hi (hi (hi U))) + (hi (hi (hi G))))) (L3 T) (-(hi (hi (hi (hi T))))) 0 w hne (Lib.hid D) cu0 fu0 (L0_u U) cu1 fu1 (L1_u U) cu2 fu2 (L2_u U) cu3 fu3 (L3_u U) cv0 (L0_u V) cv1 (L1_u V) cv2 (L2_u V) ug X0 y0 S0.2 (congrArg Neg.neg S0.1) (L0_u G) p1 (L0_u T) B1 X1 y1 S1.2 (congrArg Neg.neg S1.1) (L1_u G) p2 (L1_u T) B2 X2 y2 S2.2 (congrArg Neg.neg S2.1) (L2_u G) p3 (L2_u T) B3 SK BB (L3_u T) tz hgm
  · have z0 : (hi (hi (hi (hi T)))) = -1 := by unfold hi; omega
    have tb1 : (-(hi (hi (hi (hi T)))) == 0) = false := by rw [z0]; rfl
    have hlt : q < g := by
      by_cases hle : q < g
      · exact hle
      · have : g * V ≤ q * V := Int.mul_le_mul_of_nonneg_right (by omega) (by omega)
        omega
    have eg1 : IntKind.u64.wrap (g - 1) = g - 1 := by rw [wrap_lo]; unfold lo; omega
    have sh1 : (g - 1) * V = g * V - V := by rw [Int.sub_mul, Int.one_mul]
    by_cases t1 : 0 ≤ T1
    · have z1 : (hi (hi (hi (hi T1)))) = 0 := by unfold hi; omega
      have hgq : g - 1 = q := by
        by_cases hle : g - 1 ≤ q
        · omega
        · have : (q + 1) * V ≤ (g - 1) * V := Int.mul_le_mul_of_nonneg_right (by omega) (by omega)
          rw [Int.add_mul, Int.one_mul] at this
          omega
      have eb1 : IntKind.u64.wrap (-(hi (hi (hi (hi T)))) - ((hi (hi (hi (hi T1)))) - (hi (hi (hi (hi T)))))) = 0 := by rw [z0, z1]; rfl
      refine fin 1 (g - 1) T1 (w.setCells bu off [.int .u64 (L0 T1), .int .u64 (L1 T1), .int .u64 (L2 T1), .int .u64 (L3 T1)]) hgq (by rw [hT1, hT, hG, ← hgq]; omega) (fun n => rfl) ?_
      rcases DD with ⟨_, rr, D⟩ | ⟨hgm, D⟩
      · exact step_walk_3_1 bu off bv cu cv (L0 U) (L1 U) (L2 U) (L3 U) (L0 V) (L1 V) (L2 V) g (L0 G) o1 (L0 T) (-((hi T) - (hi U) + (hi G))) (L1 G) o2 (L1 T) (-((hi (hi T)) - (hi (hi U)) + (hi (hi G)))) (L2 G) o3 (L2 T) (-((hi (hi (hi T))) - (hi (hi (hi U))) + (hi (hi (hi G))))) (L3 T) (-(hi (hi (hi (hi T))))) (L0 T1) ((hi T1) - (hi T) - (hi V)) (L1 T1) ((hi (hi T1)) - (hi (hi T)) - (hi (hi V))) (L2 T1) ((hi (hi (hi T1))) - (hi (hi (hi T))) - 0) (L3 T1) ((hi (hi (hi (hi T1)))) - (hi (hi (hi (hi T))))) (g - 1) 0 rr w hne (Lib.hid D) cu0 fu0 (L0_u U) cu1 fu1 (L1_u U) cu2 fu2 (L2_u U) cu3 fu3 (L3_u U) cv0 (L0_u V) cv1 (L1_u V) cv2 (L2_u V) ug X0 y0 S0.2 (congrArg Neg.neg S0.1) (L0_u G) p1 (L0_u T) B1 X1 y1 S1.2 (congrArg Neg.neg S1.1) (L1_u G) p2 (L1_u T) B2 X2 y2 S2.2 (congrArg Neg.neg S2.1) (L2_u G) p3 (L2_u T) B3 SK BB (L3_u T) tb1 A10.2 A10.1 (L0_u T1) C11 A11.2 A11.1 (L1_u T1) C12 A12.2 A12.1 (L2_u T1) C13 A13.2 A13.1 (L3_u T1) eg1 eb1 rfl
      · exact step_walk_3_1e bu off bv cu cv (L0 U) (L1 U) (L2 U) (L3 U) (L0 V) (L1 V) (L2 V) g (L0 G) o1 (L0 T) (-((hi T) - (hi U) + (hi G))) (L1 G) o2 (L1 T) (-((hi (hi T)) - (hi (hi U)) + (hi (hi G)))) (L2 G) o3 (L2 T) (-((hi (hi (hi T))) - (hi (hi (hi U))) + (hi (hi (hi G))))) (L3 T) (-(hi (hi (hi (hi T))))) (L0 T1) ((hi T1) - (hi T) - (hi V)) (L1 T1) ((hi (hi T1)) - (hi (hi T)) - (hi (hi V))) (L2 T1) ((hi (hi (hi T1))) - (hi (hi (hi T))) - 0) (L3 T1) ((hi (hi (hi (hi T1)))) - (hi (hi (hi (hi T))))) (g - 1) 0 0 w hne (Lib.hid D) cu0 fu0 (L0_u U) cu1 fu1 (L1_u U) cu2 fu2 (L2_u U) cu3 fu3 (L3_u U) cv0 (L0_u V) cv1 (L1_u V) cv2 (L2_u V) ug X0 y0 S0.2 (congrArg Neg.neg S0.1) (L0_u G) p1 (L0_u T) B1 X1 y1 S1.2 (congrArg Neg.neg S1.1) (L1_u G) p2 (L1_u T) B2 X2 y2 S2.2 (congrArg Neg.neg S2.1) (L2_u G) p3 (L2_u T) B3 SK BB (L3_u T) tb1 A10.2 A10.1 (L0_u T1) C11 A11.2 A11.1 (L1_u T1) C12 A12.2 A12.1 (L2_u T1) C13 A13.2 A13.1 (L3_u T1) eg1 eb1 rfl hgm
    · have z1 : (hi (hi (hi (hi T1)))) = -1 := by unfold hi; omega
      have eb1 : IntKind.u64.wrap (-(hi (hi (hi (hi T)))) - ((hi (hi (hi (hi T1)))) - (hi (hi (hi (hi T)))))) = 1 := by rw [z0, z1]; rfl
      have hlt1 : q < g - 1 := by
        by_cases hle : q < g - 1
        · exact hle
        · have : (g - 1) * V ≤ q * V := Int.mul_le_mul_of_nonneg_right (by omega) (by omega)
          omega
      have hgq : g - 1 - 1 = q := by omega
      have eg2 : IntKind.u64.wrap (g - 1 - 1) = g - 1 - 1 := by rw [wrap_lo]; unfold lo; omega
      have sh2 : (g - 1 - 1) * V = (g - 1) * V - V := by rw [Int.sub_mul (g - 1), Int.one_mul]
      have t2 : 0 ≤ T2 := by rw [hgq] at sh2; omega
      have z2 : (hi (hi (hi (hi T2)))) = 0 := by unfold hi; omega
      have eb2 : IntKind.u64.wrap (1 - ((hi (hi (hi (hi T2)))) - (hi (hi (hi (hi T1)))))) = 0 := by rw [z1, z2]; rfl
      refine fin 2 (g - 1 - 1) T2 (w.setCells bu off [.int .u64 (L0 T2), .int .u64 (L1 T2), .int .u64 (L2 T2), .int .u64 (L3 T2)]) hgq (by rw [hT2, hT1, hT, hG, ← hgq]; omega) (fun n => rfl) ?_
      rcases DD with ⟨_, rr, D⟩ | ⟨hgm, D⟩
      · exact step_walk_3_2 bu off bv cu cv (L0 U) (L1 U) (L2 U) (L3 U) (L0 V) (L1 V) (L2 V) g (L0 G) o1 (L0 T) (-((hi T) - (hi U) + (hi G))) (L1 G) o2 (L1 T) (-((hi (hi T)) - (hi (hi U)) + (hi (hi G)))) (L2 G) o3 (L2 T) (-((hi (hi (hi T))) - (hi (hi (hi U))) + (hi (hi (hi G))))) (L3 T) (-(hi (hi (hi (hi T))))) (L0 T1) ((hi T1) - (hi T) - (hi V)) (L1 T1) ((hi (hi T1)) - (hi (hi T)) - (hi (hi V))) (L2 T1) ((hi (hi (hi T1))) - (hi (hi (hi T))) - 0) (L3 T1) ((hi (hi (hi (hi T1)))) - (hi (hi (hi (hi T))))) (g - 1) 1 (L0 T2) ((hi T2) - (hi T1) - (hi V)) (L1 T2) ((hi (hi T2)) - (hi (hi T1)) - (hi (hi V))) (L2 T2) ((hi (hi (hi T2))) - (hi (hi (hi T1))) - 0) (L3 T2) ((hi (hi (hi (hi T2)))) - (hi (hi (hi (hi T1))))) (g - 1 - 1) 0 rr w hne (Lib.hid D) cu0 fu0 (L0_u U) cu1 fu1 (L1_u U) cu2 fu2 (L2_u U) cu3 fu3 (L3_u U) cv0 (L0_u V) cv1 (L1_u V) cv2 (L2_u V) ug X0 y0 S0.2 (congrArg Neg.neg S0.1) (L0_u G) p1 (L0_u T) B1 X1 y1 S1.2 (congrArg Neg.neg S1.1) (L1_u G) p2 (L1_u T) B2 X2 y2 S2.2 (congrArg Neg.neg S2.1) (L2_u G) p3 (L2_u T) B3 SK BB (L3_u T) tb1 A10.2 A10.1 (L0_u T1) C11 A11.2 A11.1 (L1_u T1) C12 A12.2 A12.1 (L2_u T1) C13 A13.2 A13.1 (L3_u T1) eg1 eb1 rfl A20.2 A20.1 (L0_u T2) C21 A21.2 A21.1 (L1_u T2) C22 A22.2 A22.1 (L2_u T2) C23 A23.2 A23.1 (L3_u T2) eg2 eb2 rfl
      · exact step_walk_3_2e bu off bv cu cv (L0 U) (L1 U) (L2 U) (L3 U) (L0 V) (L1 V) (L2 V) g (L0 G) o1 (L0 T) (-((hi T) - (hi U) + (hi G))) (L1 G) o2 (L1 T) (-((hi (hi T)) - (hi (hi U)) + (hi (hi G)))) (L2 G) o3 (L2 T) (-((hi (hi (hi T))) - (hi (hi (hi U))) + (hi (hi (hi G))))) (L3 T) (-(hi (hi (hi (hi T))))) (L0 T1) ((hi T1) - (hi T) - (hi V)) (L1 T1) ((hi (hi T1)) - (hi (hi T)) - (hi (hi V))) (L2 T1) ((hi (hi (hi T1))) - (hi (hi (hi T))) - 0) (L3 T1) ((hi (hi (hi (hi T1)))) - (hi (hi (hi (hi T))))) (g - 1) 1 (L0 T2) ((hi T2) - (hi T1) - (hi V)) (L1 T2) ((hi (hi T2)) - (hi (hi T1)) - (hi (hi V))) (L2 T2) ((hi (hi (hi T2))) - (hi (hi (hi T1))) - 0) (L3 T2) ((hi (hi (hi (hi T2)))) - (hi (hi (hi (hi T1))))) (g - 1 - 1) 0 0 w hne (Lib.hid D) cu0 fu0 (L0_u U) cu1 fu1 (L1_u U) cu2 fu2 (L2_u U) cu3 fu3 (L3_u U) cv0 (L0_u V) cv1 (L1_u V) cv2 (L2_u V) ug X0 y0 S0.2 (congrArg Neg.neg S0.1) (L0_u G) p1 (L0_u T) B1 X1 y1 S1.2 (congrArg Neg.neg S1.1) (L1_u G) p2 (L1_u T) B2 X2 y2 S2.2 (congrArg Neg.neg S2.1) (L2_u G) p3 (L2_u T) B3 SK BB (L3_u T) tb1 A10.2 A10.1 (L0_u T1) C11 A11.2 A11.1 (L1_u T1) C12 A12.2 A12.1 (L2_u T1) C13 A13.2 A13.1 (L3_u T1) eg1 eb1 rfl A20.2 A20.1 (L0_u T2) C21 A21.2 A21.1 (L1_u T2) C22 A22.2 A22.1 (L2_u T2) C23 A23.2 A23.1 (L3_u T2) eg2 eb2 rfl hgm
end Go.Proofs.Ytgjdegahofoalaa.Wide
